/-
  Maps from u32 to values;a heap without some blocks.
  MADE BY PROGRAM (wip/gen/gen.py): functions 44 73 61 70 106 90 41 27 40 45 76 78 47 77 46 81 48 82 49 43 42 16 as marked code,and their claims written out.
  MADE BY PROGRAM (wip/gen/gen.py): functions 29 33 34 35 74 55 62 105 22 as marked code,and their claims written out.
  Plain facts on sets of vertices as numbers.
  Contracts: below,the Check of a graph (texts of chapter 30,by name).
-/
import Derived.Test.YtoiioigihocgbaaGreatDoorN14
import Derived.MapKept
import Derived.KernelRfl
import GoSem.Claim
import Derived.Laws.BitsAllLaws
import Derived.Test.YtoiioigihocgbaaGreatDoorN13
set_option linter.all false
noncomputable section


namespace Go.Proofs.YtoiioigihocgbaaGreatDoor
open Go.Clo
set_option maxRecDepth 100000
variable {H:Y0} {a0 a1:Value} {k:EP} {nx:Nat}
def d44:D:=X5 Tryz.prog 44 [] [] []
def F44(a0:Value)(H:Y0)(nx:Nat)(k:EP):Prop:=
 M2 (nx+19) fun Q=>
 U0 .shr a0 (.int .u64 24) fun t1=>
 wVf .sidx [(.string ⟨#[0,1,1,2,1,2,2,3,1,2,2,3,2,3,3,4,1,2,2,3,2,3,3,4,2,3,3,4,3,4,4,5,1,2,2,3,2,3,3,4,2,3,3,4,3,4,4,5,2,3,3,4,3,4,4,5,3,4,4,5,4,5,5,6,1,2,2,3,2,3,3,4,2,3,3,4,3,4,4,5,2,3,3,4,3,4,4,5,3,4,4,5,4,5,5,6,2,3,3,4,3,4,4,5,3,4,4,5,4,5,5,6,3,4,4,5,4,5,5,6,4,5,5,6,5,6,6,7,1,2,2,3,2,3,3,4,2,3,3,4,3,4,4,5,2,3,3,4,3,4,4,5,3,4,4,5,4,5,5,6,2,3,3,4,3,4,4,5,3,4,4,5,4,5,5,6,3,4,4,5,4,5,5,6,4,5,5,6,5,6,6,7,2,3,3,4,3,4,4,5,3,4,4,5,4,5,5,6,3,4,4,5,4,5,5,6,4,5,5,6,5,6,6,7,3,4,4,5,4,5,5,6,4,5,5,6,5,6,6,7,4,5,5,6,5,6,6,7,5,6,6,7,6,7,7,8]⟩),t1] fun t2=>
 U0 .shr a0 (.int .u64 16) fun t3=>
 U0 .and t3 (.int .u32 255) fun t4=>
 wVf .sidx [(.string ⟨#[0,1,1,2,1,2,2,3,1,2,2,3,2,3,3,4,1,2,2,3,2,3,3,4,2,3,3,4,3,4,4,5,1,2,2,3,2,3,3,4,2,3,3,4,3,4,4,5,2,3,3,4,3,4,4,5,3,4,4,5,4,5,5,6,1,2,2,3,2,3,3,4,2,3,3,4,3,4,4,5,2,3,3,4,3,4,4,5,3,4,4,5,4,5,5,6,2,3,3,4,3,4,4,5,3,4,4,5,4,5,5,6,3,4,4,5,4,5,5,6,4,5,5,6,5,6,6,7,1,2,2,3,2,3,3,4,2,3,3,4,3,4,4,5,2,3,3,4,3,4,4,5,3,4,4,5,4,5,5,6,2,3,3,4,3,4,4,5,3,4,4,5,4,5,5,6,3,4,4,5,4,5,5,6,4,5,5,6,5,6,6,7,2,3,3,4,3,4,4,5,3,4,4,5,4,5,5,6,3,4,4,5,4,5,5,6,4,5,5,6,5,6,6,7,3,4,4,5,4,5,5,6,4,5,5,6,5,6,6,7,4,5,5,6,5,6,6,7,5,6,6,7,6,7,7,8]⟩),t4] fun t5=>
 U0 .add t2 t5 fun t6=>
 U0 .shr a0 (.int .u64 8) fun t7=>
 U0 .and t7 (.int .u32 255) fun t8=>
 wVf .sidx [(.string ⟨#[0,1,1,2,1,2,2,3,1,2,2,3,2,3,3,4,1,2,2,3,2,3,3,4,2,3,3,4,3,4,4,5,1,2,2,3,2,3,3,4,2,3,3,4,3,4,4,5,2,3,3,4,3,4,4,5,3,4,4,5,4,5,5,6,1,2,2,3,2,3,3,4,2,3,3,4,3,4,4,5,2,3,3,4,3,4,4,5,3,4,4,5,4,5,5,6,2,3,3,4,3,4,4,5,3,4,4,5,4,5,5,6,3,4,4,5,4,5,5,6,4,5,5,6,5,6,6,7,1,2,2,3,2,3,3,4,2,3,3,4,3,4,4,5,2,3,3,4,3,4,4,5,3,4,4,5,4,5,5,6,2,3,3,4,3,4,4,5,3,4,4,5,4,5,5,6,3,4,4,5,4,5,5,6,4,5,5,6,5,6,6,7,2,3,3,4,3,4,4,5,3,4,4,5,4,5,5,6,3,4,4,5,4,5,5,6,4,5,5,6,5,6,6,7,3,4,4,5,4,5,5,6,4,5,5,6,5,6,6,7,4,5,5,6,5,6,6,7,5,6,6,7,6,7,7,8]⟩),t8] fun t9=>
 U0 .add t6 t9 fun W=>
 U0 .and a0 (.int .u32 255) fun V=>
 wVf .sidx [(.string ⟨#[0,1,1,2,1,2,2,3,1,2,2,3,2,3,3,4,1,2,2,3,2,3,3,4,2,3,3,4,3,4,4,5,1,2,2,3,2,3,3,4,2,3,3,4,3,4,4,5,2,3,3,4,3,4,4,5,3,4,4,5,4,5,5,6,1,2,2,3,2,3,3,4,2,3,3,4,3,4,4,5,2,3,3,4,3,4,4,5,3,4,4,5,4,5,5,6,2,3,3,4,3,4,4,5,3,4,4,5,4,5,5,6,3,4,4,5,4,5,5,6,4,5,5,6,5,6,6,7,1,2,2,3,2,3,3,4,2,3,3,4,3,4,4,5,2,3,3,4,3,4,4,5,3,4,4,5,4,5,5,6,2,3,3,4,3,4,4,5,3,4,4,5,4,5,5,6,3,4,4,5,4,5,5,6,4,5,5,6,5,6,6,7,2,3,3,4,3,4,4,5,3,4,4,5,4,5,5,6,3,4,4,5,4,5,5,6,4,5,5,6,5,6,6,7,3,4,4,5,4,5,5,6,4,5,5,6,5,6,6,7,4,5,5,6,5,6,6,7,5,6,6,7,6,7,7,8]⟩),V] fun O=>
 U0 .add W O fun J=>
 W8 .i64 J fun E=>
 (((((W8 .i64 J fun U=>U=E)/\True)/\True))/\(
 M0 E fun Z=>k Z H Q))\/False
theorem spec44(h:F44 a0 H nx k):Q2 Tryz.prog 44 [a0] H nx k:=
 E2 mixed J2 21 5 d44 [(.s 2,none)] (by kernel_rfl) (by kernel_rfl) (by simp) (by kernel_rfl) h
def d61:D:=X5 Tryz.prog 61 [] [] []
def F61(a0:Value)(H:Y0)(nx:Nat)(k:EP):Prop:=
 U0 .shl (.int .u64 1) a0 fun t1=>
 U0 .sub t1 (.int .u64 1) fun t2=>
 W8 .u32 t2 fun t3=>
 M0 t3 fun t4=>k t4 H nx
theorem spec61(h:F61 a0 H nx k):Q2 Tryz.prog 61 [a0] H nx k:=
 E2 mixed J2 7 3 d61 [(.s 2,none)] (by kernel_rfl) (by kernel_rfl) (by simp) (by kernel_rfl) h
def d70:D:=X5 Tryz.prog 70 [(2,[17])] [] [.one (.tst (.one (.tst (.one .nil) (.one .nil))) (.one (.one (.one .nil))))]
def F70(a0 a1:Value)(H:Y0)(nx:Nat)(k:EP):Prop:=
 E5 a0 fun t1=>J3 (.cells t1 0) .ptr H nx fun t2 H1 O=>
 V4 (fun t3=>
 J1 t2 (some 2) H1 fun t5=>
 Y2 Tryz.prog 27 [t5] H1 O fun t6 H3 E=>
 U0 .neq t6 (.int .i64 0) fun t7=>
 K3 false t7 (
 U0 .lss a1 (.int .i64 0) fun t8=>
 K3 false t8 (
 B4 t2 0 fun t9=>
 J1 t9 none H3 fun a3=>
 U0 .geq a1 a3 fun Q=>
 t3 [Q] H3 E) (
 t3 [(.bool true)] H3 E)) (
 t3 [(.bool true)] H3 E)) (fun t4 H2 nx2=>
 K2 (t4.getD 0 undef) (
 M0 (.int .u32 0) fun a2=>k a2 H2 nx2) (
 J1 t2 (some 2) H2 fun W=>
 Y2 Tryz.prog 29 [W] H2 nx2 fun J H4 Z=>
 D65 J a1 32 1 false fun U=>
 M0 U fun V=>k V H4 Z))
theorem spec70(h:F70 a0 a1 H nx k):Q2 Tryz.prog 70 [a0,a1] H nx k:=
 E2 mixed J2 22 5 d70 [(.s 4,none)] (by kernel_rfl) (by kernel_rfl) (by simp) (by kernel_rfl) h
def d27:D:=X5 Tryz.prog 27 [(2,[12])] [[20]] [.one (.tst (.one .nil) (.one .nil))]
def F27(a0:Value)(H:Y0)(nx:Nat)(k:EP):Prop:=
 E5 a0 fun t1=>J3 (.cells t1 0) .ptr H nx fun t2 H1 U=>
 V4 (fun t3=>
 B4 t2 0 fun t5=>
 J1 t5 none H1 fun t6=>
 U0 .lss t6 (.int .i64 0) fun t7=>
 K3 false t7 (
 B4 t2 0 fun t8=>
 J1 t8 none H1 fun t9=>
 U0 .gtr t9 (.int .i64 32) fun ak=>
 t3 [ak] H1 U) (
 t3 [(.bool true)] H1 U)) (fun t4 H2 nx2=>
 K2 (t4.getD 0 undef) (
 M0 (.int .i64 3) fun ad=>k ad H2 nx2) (
 B4 t2 1 fun a8=>
 J1 a8 none H2 fun ai=>
 R4 ai 0 H2 fun a9=>
 U0 .gtr a9 (.int .i64 64) fun ab=>
 K2 ab (
 M0 (.int .i64 12) fun ag=>k ag H2 nx2) (
 B4 t2 1 fun ae=>
 J1 ae none H2 fun J=>
 R4 J 0 H2 fun a3=>
 G3 (fun aj E H3 O=>
 U0 .lss (E.getD 0 undef) a3 fun ah=>
 K2 ah (
 M3 J (E.getD 0 undef) none 1 fun a5=>
 J1 a5 none H3 fun V=>
 B4 t2 0 fun a6=>
 J1 a6 none H3 fun ac=>
 Y2 Tryz.prog 61 [ac] H3 O fun a7 H4 Q=>
 U0 .andNot V a7 fun W=>
 U0 .neq W (.int .u32 0) fun aa=>
 K2 aa (
 M0 (.int .i64 1) fun a2=>k a2 H4 Q) (
 U0 .add (E.getD 0 undef) (.int .i64 1) fun a4=>
 aj [a4] H4 Q)) (
 M0 (.int .i64 0) fun Z=>k Z H3 O)) [(.int .i64 0)] H2 nx2)))
theorem spec27(h:F27 a0 H nx k):Q2 Tryz.prog 27 [a0] H nx k:=
 E2 mixed J2 31 5 d27 [(.s 2,none)] (by kernel_rfl) (by kernel_rfl) (by simp) (by kernel_rfl) h
def d43:D:=X5 Tryz.prog 43 [(9,[])] [[18]] []
def F43(a0 a1:Value)(H:Y0)(nx:Nat)(k:EP):Prop:=
 E5 a0 fun t1=>J3 (.cells t1 0) .ptr H nx fun t2 H1 an=>
 J3 (.cells [.int .i64 0,.slice none 0 0] 0) .ptr H1 an fun t3 H2 nx2=>
 J1 t2 (some 2) H2 fun t4=>
 Y2 Tryz.prog 27 [t4] H2 nx2 fun t5 H3 U=>
 U0 .neq t5 (.int .i64 0) fun t6=>
 K2 t6 (
 U11 [.int .i64 0,.slice none 0 0] [(0,1),(1,1)] [] fun t7=>
 D5 t3 t7 2 H3 fun H4=>
 J1 t3 (some 2) H4 fun t8=>
 M0 t8 fun t9=>k t9 H4 U) (
 B4 t2 0 fun ay=>
 J1 ay none H3 fun ap=>
 U11 [.int .i64 0,.slice none 0 0] [(0,1),(1,1)] [(0,ap)] fun aj=>
 J3 (.cells [.int .i64 0,.slice none 0 0] 0) .ptr H3 U fun E H5 a4=>
 D5 E aj 2 H5 fun H6=>
 B4 t2 1 fun ak=>
 J1 ak none H6 fun W=>
 R4 W 0 H6 fun av=>
 G3 (fun au O H7 J=>
 U0 .lss (O.getD 0 undef) av fun ac=>
 K2 ac (
 V4 (fun a2=>
 M3 W (O.getD 0 undef) none 1 fun aw=>
 J1 aw none H7 fun V=>
 U0 .and V a1 fun a5=>
 U0 .neq a5 (.int .u32 0) fun ah=>
 K2 ah (
 B4 E 1 fun ao=>
 J1 ao none H7 fun ai=>
 U0 .and V a1 fun a6=>
 K6 1 1 [.int .u32 0] [(0,a6)] fun al=>J3 (.cells al 0) (.slice 1 1) H7 J fun ab H9 aq=>
 B5 ai ab 1 4 H9 aq fun ae ad Q=>
 B4 E 1 fun a7=>
 D5 a7 ae 1 ad fun ag=>
 a2 [] ag Q) (
 a2 [] H7 J)) (fun az H8 a9=>
 U0 .add (O.getD 0 undef) (.int .i64 1) fun aa=>
 au [aa] H8 a9)) (
 J1 E (some 2) H7 fun a8=>
 D5 t3 a8 2 H7 fun Z=>
 J1 t3 (some 2) Z fun ax=>
 M0 ax fun a3=>k a3 Z J)) [(.int .i64 0)] H6 a4)
theorem spec43(h:F43 a0 a1 H nx k):Q2 Tryz.prog 43 [a0,a1] H nx k:=
 E2 mixed J2 36 6 d43 [(.s 4,some (some 2))] (by kernel_rfl) (by kernel_rfl) (by simp) (by kernel_rfl) h
def d42:D:=X5 Tryz.prog 42 [(20,[8])] [[4,5],[6,7],[8,31]] []
def F42(a0:Value)(H:Y0)(nx:Nat)(k:EP):Prop:=
 E5 a0 fun t1=>J3 (.cells t1 0) .ptr H nx fun t2 H1 au=>
 J1 t2 (some 2) H1 fun t3=>
 Y2 Tryz.prog 27 [t3] H1 au fun t4 H2 nx2=>
 U0 .neq t4 (.int .i64 0) fun t5=>
 K2 t5 (
 M0 (.slice none 0 0) fun t6=>k t6 H2 nx2) (
 J1 t2 (some 2) H2 fun t7=>
 Y2 Tryz.prog 29 [t7] H2 nx2 fun t8 H3 aj=>
 J3 (.cells [.int .u32 0,.int .u32 0,.int .u32 0,.int .u32 0,.int .u32 0,.int .u32 0,.int .u32 0,.int .u32 0,.int .u32 0,.int .u32 0,.int .u32 0,.int .u32 0,.int .u32 0,.int .u32 0,.int .u32 0,.int .u32 0,.int .u32 0,.int .u32 0,.int .u32 0,.int .u32 0,.int .u32 0,.int .u32 0,.int .u32 0,.int .u32 0,.int .u32 0,.int .u32 0,.int .u32 0,.int .u32 0,.int .u32 0,.int .u32 0,.int .u32 0,.int .u32 0] 0) .ptr H3 aj fun t9 H4 al=>
 D5 t9 t8 32 H4 fun H5=>
 B4 t2 0 fun bf=>
 J1 bf none H5 fun aw=>
 Y2 Tryz.prog 61 [aw] H5 al fun ao H6 a7=>
 G3 (fun b5 O H7 W=>
 U0 .neq (O.getD 1 undef) (.int .u32 0) fun av=>
 K2 av (
 wUn .neg (O.getD 1 undef) fun az=>
 U0 .and (O.getD 1 undef) az fun ay=>
 G3 (fun ah J H8 V=>
 U0 .neq (J.getD 1 undef) (.int .u32 0) fun bc=>
 K2 bc (
 U0 .or (J.getD 0 undef) (J.getD 1 undef) fun U=>
 B4 t2 0 fun b4=>
 J1 b4 none H8 fun ak=>
 G3 (fun a8 E H9 Q=>
 U0 .lss (E.getD 1 undef) ak fun ax=>
 K2 ax (
 V4 (fun a3=>
 U0 .shr (J.getD 1 undef) (E.getD 1 undef) fun aq=>
 U0 .and aq (.int .u32 1) fun ae=>
 U0 .eql ae (.int .u32 1) fun ai=>
 K2 ai (
 M3 t9 (E.getD 1 undef) (some 32) 1 fun aa=>
 J1 aa none H9 fun ad=>
 U0 .or (E.getD 0 undef) ad fun ab=>
 a3 [ab] H9 Q) (
 a3 [(E.getD 0 undef)] H9 Q)) (fun a9 ag Z=>
 U0 .add (E.getD 1 undef) (.int .i64 1) fun b8=>
 a8 [(a9.getD 0 undef),b8] ag Z)) (
 U0 .andNot (E.getD 0 undef) U fun a5=>
 ah [U,a5] H9 Q)) [(.int .u32 0),(.int .i64 0)] H8 V) (
 K6 1 1 [.int .u32 0] [(0,(J.getD 0 undef))] fun bd=>J3 (.cells bd 0) (.slice 1 1) H8 V fun ac an a2=>
 B5 (O.getD 0 undef) ac 1 4 an a2 fun ba b3 a4=>
 U0 .andNot (O.getD 1 undef) (J.getD 0 undef) fun ap=>
 b5 [ba,ap] b3 a4)) [(.int .u32 0),ay] H7 W) (
 M0 (O.getD 0 undef) fun a6=>k a6 H7 W)) [(.slice none 0 0),ao] H6 a7)
theorem spec42(h:F42 a0 H nx k):Q2 Tryz.prog 42 [a0] H nx k:=
 E2 mixed J2 56 6 d42 [(.s 2,none)] (by kernel_rfl) (by kernel_rfl) (by simp) (by kernel_rfl) h
end Go.Proofs.YtoiioigihocgbaaGreatDoor

namespace Go.Proofs.YtoiioigihocgbaaGreatDoor
open Go.Clo
set_option maxRecDepth 100000
variable {H:Y0} {a0 a1:Value} {k:EP} {nx:Nat}
def d29:D:=X5 Tryz.prog 29 [(11,[])] [[10],[16]] []
def F29(a0:Value)(H:Y0)(nx:Nat)(k:EP):Prop:=
 E5 a0 fun t1=>J3 (.cells t1 0) .ptr H nx fun t2 H1 ag=>
 J3 (.cells [.int .u32 0,.int .u32 0,.int .u32 0,.int .u32 0,.int .u32 0,.int .u32 0,.int .u32 0,.int .u32 0,.int .u32 0,.int .u32 0,.int .u32 0,.int .u32 0,.int .u32 0,.int .u32 0,.int .u32 0,.int .u32 0,.int .u32 0,.int .u32 0,.int .u32 0,.int .u32 0,.int .u32 0,.int .u32 0,.int .u32 0,.int .u32 0,.int .u32 0,.int .u32 0,.int .u32 0,.int .u32 0,.int .u32 0,.int .u32 0,.int .u32 0,.int .u32 0] 0) .ptr H1 ag fun t3 H2 nx2=>
 J3 (.cells [.int .u32 0,.int .u32 0,.int .u32 0,.int .u32 0,.int .u32 0,.int .u32 0,.int .u32 0,.int .u32 0,.int .u32 0,.int .u32 0,.int .u32 0,.int .u32 0,.int .u32 0,.int .u32 0,.int .u32 0,.int .u32 0,.int .u32 0,.int .u32 0,.int .u32 0,.int .u32 0,.int .u32 0,.int .u32 0,.int .u32 0,.int .u32 0,.int .u32 0,.int .u32 0,.int .u32 0,.int .u32 0,.int .u32 0,.int .u32 0,.int .u32 0,.int .u32 0] 0) .ptr H2 nx2 fun t4 H3 aa=>
 B4 t2 1 fun t5=>
 J1 t5 none H3 fun t6=>
 R4 t6 0 H3 fun t7=>
 G3 (fun t8 t9 H4 V=>
 U0 .lss (t9.getD 0 undef) t7 fun ap=>
 K2 ap (
 M3 t6 (t9.getD 0 undef) none 1 fun aj=>
 J1 aj none H4 fun W=>
 B4 t2 0 fun an=>
 J1 an none H4 fun ad=>
 G3 (fun ah E H5 J=>
 U0 .lss (E.getD 0 undef) ad fun ak=>
 K2 ak (
 V4 (fun Q=>
 U0 .shr W (E.getD 0 undef) fun ao=>
 U0 .and ao (.int .u32 1) fun a3=>
 U0 .eql a3 (.int .u32 1) fun al=>
 K2 al (
 M2 (J+10) fun a6=>
 M3 t4 (E.getD 0 undef) (some 32) 1 fun U=>
 J1 U none H5 fun O=>
 U0 .shl (.int .u32 1) (E.getD 0 undef) fun ab=>
 U0 .andNot W ab fun ai=>
 U0 .or O ai fun ac=>
 M3 t4 (E.getD 0 undef) (some 32) 1 fun Z=>
 D5 Z ac 1 H5 fun H8=>
 (((((True)/\((J1 U none H5 fun ae=>ae=O)/\True))/\True))/\(
 Q [] H8 a6))\/False) (
 Q [] H5 J)) (fun aq H6 a2=>
 U0 .add (E.getD 0 undef) (.int .i64 1) fun a8=>
 ah [a8] H6 a2)) (
 U0 .add (t9.getD 0 undef) (.int .i64 1) fun a9=>
 t8 [a9] H5 J)) [(.int .i64 0)] H4 V) (
 J1 t4 (some 32) H4 fun a4=>
 D5 t3 a4 32 H4 fun H9=>
 J1 t3 (some 32) H9 fun a7=>
 M0 a7 fun a5=>k a5 H9 V)) [(.int .i64 0)] H3 aa
theorem spec29(h:F29 a0 H nx k):Q2 Tryz.prog 29 [a0] H nx k:=
 E2 mixed J2 36 6 d29 [(.s 2,some (some 32))] (by kernel_rfl) (by kernel_rfl) (by simp) (by kernel_rfl) h
def d33:D:=X5 Tryz.prog 33 [(6,[18])] [] [.one (.tst (.one .nil) (.one .nil))]
def F33(a0 a1:Value)(H:Y0)(nx:Nat)(k:EP):Prop:=
 E5 a0 fun t1=>J3 (.cells t1 0) .ptr H nx fun t2 H1 O=>
 J1 t2 (some 2) H1 fun t3=>
 Y2 Tryz.prog 27 [t3] H1 O fun t4 H2 nx2=>
 U0 .neq t4 (.int .i64 0) fun t5=>
 K2 t5 (
 M0 t4 fun t6=>k t6 H2 nx2) (
 V4 (fun t7=>
 U0 .lss a1 (.int .i64 0) fun t9=>
 K3 false t9 (
 B4 t2 0 fun W=>
 J1 W none H2 fun Q=>
 U0 .gtr a1 Q fun V=>
 t7 [V] H2 nx2) (
 t7 [(.bool true)] H2 nx2)) (fun t8 H3 E=>
 K2 (t8.getD 0 undef) (
 M0 (.int .i64 3) fun U=>k U H3 E) (
 M0 (.int .i64 0) fun J=>k J H3 E)))
theorem spec33(h:F33 a0 a1 H nx k):Q2 Tryz.prog 33 [a0,a1] H nx k:=
 E2 mixed J2 19 5 d33 [(.s 4,none)] (by kernel_rfl) (by kernel_rfl) (by simp) (by kernel_rfl) h
def d34:D:=X5 Tryz.prog 34 [] [[7]] []
def F34(a0:Value)(H:Y0)(nx:Nat)(k:EP):Prop:=
 E5 a0 fun t1=>J3 (.cells t1 0) .ptr H nx fun t2 H1 Q=>
 J3 (.cells [.int .u32 0,.int .u32 0,.int .u32 0,.int .u32 0,.int .u32 0,.int .u32 0,.int .u32 0,.int .u32 0,.int .u32 0,.int .u32 0,.int .u32 0,.int .u32 0,.int .u32 0,.int .u32 0,.int .u32 0,.int .u32 0,.int .u32 0,.int .u32 0,.int .u32 0,.int .u32 0,.int .u32 0,.int .u32 0,.int .u32 0,.int .u32 0,.int .u32 0,.int .u32 0,.int .u32 0,.int .u32 0,.int .u32 0,.int .u32 0,.int .u32 0,.int .u32 0] 0) .ptr H1 Q fun t3 H2 nx2=>
 J3 (.cells [.int .u32 0,.int .u32 0,.int .u32 0,.int .u32 0,.int .u32 0,.int .u32 0,.int .u32 0,.int .u32 0,.int .u32 0,.int .u32 0,.int .u32 0,.int .u32 0,.int .u32 0,.int .u32 0,.int .u32 0,.int .u32 0,.int .u32 0,.int .u32 0,.int .u32 0,.int .u32 0,.int .u32 0,.int .u32 0,.int .u32 0,.int .u32 0,.int .u32 0,.int .u32 0,.int .u32 0,.int .u32 0,.int .u32 0,.int .u32 0,.int .u32 0,.int .u32 0] 0) .ptr H2 nx2 fun t4 H3 Z=>
 B4 t2 0 fun t5=>
 J1 t5 none H3 fun t6=>
 G3 (fun t7 t8 H4 E=>
 U0 .lss (t8.getD 0 undef) t6 fun t9=>
 K2 t9 (
 J1 t2 (some 2) H4 fun a4=>
 Y2 Tryz.prog 70 [a4,(t8.getD 0 undef)] H4 E fun U H5 O=>
 M3 t4 (t8.getD 0 undef) (some 32) 1 fun a3=>
 D5 a3 U 1 H5 fun H6=>
 U0 .add (t8.getD 0 undef) (.int .i64 1) fun a2=>
 t7 [a2] H6 O) (
 J1 t4 (some 32) H4 fun J=>
 D5 t3 J 32 H4 fun H7=>
 J1 t3 (some 32) H7 fun V=>
 M0 V fun W=>k W H7 E)) [(.int .i64 0)] H3 Z
theorem spec34(h:F34 a0 H nx k):Q2 Tryz.prog 34 [a0] H nx k:=
 E2 mixed J2 17 5 d34 [(.s 2,some (some 32))] (by kernel_rfl) (by kernel_rfl) (by simp) (by kernel_rfl) h
def d35:D:=X5 Tryz.prog 35 [] [] []
def F35(a0:Value)(H:Y0)(nx:Nat)(k:EP):Prop:=
 U0 .shl (.int .u64 1) a0 fun t1=>
 U0 .sub t1 (.int .u64 1) fun t2=>
 W8 .u32 t2 fun t3=>
 M0 t3 fun t4=>k t4 H nx
theorem spec35(h:F35 a0 H nx k):Q2 Tryz.prog 35 [a0] H nx k:=
 E2 mixed J2 7 3 d35 [(.s 2,none)] (by kernel_rfl) (by kernel_rfl) (by simp) (by kernel_rfl) h
def d55:D:=X5 Tryz.prog 55 [] [] [.one (.tst (.one (.tst (.one .nil) (.one .nil))) (.one (.one (.one .nil))))]
def F55(a0 a1:Value)(H:Y0)(nx:Nat)(k:EP):Prop:=
 U0 .geq a1 (.int .i64 0) fun t1=>
 K3 true t1 (
 U0 .lss a1 (.int .i64 32) fun t2=>
 K3 true t2 (
 W8 .u64 a1 fun t3=>
 U0 .shr a0 t3 fun t4=>
 U0 .and t4 (.int .u32 1) fun t5=>
 U0 .eql t5 (.int .u32 1) fun t6=>
 M0 t6 fun t7=>k t7 H nx) (
 M0 (.bool false) fun t8=>k t8 H nx)) (
 M0 (.bool false) fun t9=>k t9 H nx)
theorem spec55(h:F55 a0 a1 H nx k):Q2 Tryz.prog 55 [a0,a1] H nx k:=
 E2 mixed J2 19 5 d55 [(.s 4,none)] (by kernel_rfl) (by kernel_rfl) (by simp) (by kernel_rfl) h
def d62:D:=X5 Tryz.prog 62 [] [[5]] []
def F62(a0 a1:Value)(H:Y0)(nx:Nat)(k:EP):Prop:=
 G3 (fun t1 t2 H1 E=>
 R4 a0 0 H1 fun t3=>
 U0 .lss (t2.getD 0 undef) t3 fun t4=>
 K2 t4 (
 M3 a0 (t2.getD 0 undef) none 1 fun t5=>
 J1 t5 none H1 fun t6=>
 U0 .and t6 a1 fun t7=>
 U0 .eql t7 a1 fun t8=>
 K2 t8 (
 M0 (.bool true) fun t9=>k t9 H1 E) (
 U0 .add (t2.getD 0 undef) (.int .i64 1) fun Q=>
 t1 [Q] H1 E)) (
 U0 .eql a1 (.int .u32 0) fun O=>
 M0 O fun J=>k J H1 E)) [(.int .i64 0)] H nx
theorem spec62(h:F62 a0 a1 H nx k):Q2 Tryz.prog 62 [a0,a1] H nx k:=
 E2 mixed J2 22 5 d62 [(.s 4,none)] (by kernel_rfl) (by kernel_rfl) (by simp) (by kernel_rfl) h
def d105:D:=X5 Tryz.prog 105 [(11,[])] [[6],[7]] []
def F105(a0 a1:Value)(H:Y0)(nx:Nat)(k:EP):Prop:=
 D30 a1 a1 [.int .u32 0] fun t1 t3 t4=>J3 (.cells t1 0) (.slice t3 t4) H nx fun t2 H1 ag=>
 G3 (fun t5 t6 H2 nx2=>
 U0 .lss (t6.getD 0 undef) a1 fun t7=>
 K2 t7 (
 G3 (fun t8 t9 H3 Q=>
 R4 a0 0 H3 fun an=>
 U0 .lss (t9.getD 0 undef) an fun aj=>
 K2 aj (
 V4 (fun U=>
 M3 a0 (t9.getD 0 undef) none 1 fun ad=>
 J1 ad none H3 fun ah=>
 Y2 Tryz.prog 55 [ah,(t6.getD 0 undef)] H3 Q fun ak H5 E=>
 K2 ak (
 M2 (E+13) fun Z=>
 M3 t2 (t6.getD 0 undef) none 1 fun V=>
 J1 V none H5 fun O=>
 M3 a0 (t9.getD 0 undef) none 1 fun J=>
 J1 J none H5 fun W=>
 U0 .or O W fun a4=>
 M3 t2 (t6.getD 0 undef) none 1 fun al=>
 D5 al a4 1 H5 fun H7=>
 (((((True)/\((J1 J none H5 fun a2=>a2=W)/\True))/\(((True)/\((J1 V none H5 fun a9=>a9=O)/\True))/\True)))/\(
 U [] H7 Z))\/False) (
 U [] H5 E)) (fun ao H4 aa=>
 U0 .add (t9.getD 0 undef) (.int .i64 1) fun ab=>
 t8 [ab] H4 aa)) (
 M3 t2 (t6.getD 0 undef) none 1 fun ai=>
 J1 ai none H3 fun ac=>
 W8 .u64 (t6.getD 0 undef) fun a3=>
 U0 .shl (.int .u32 1) a3 fun ae=>
 U0 .andNot ac ae fun a7=>
 M3 t2 (t6.getD 0 undef) none 1 fun a8=>
 D5 a8 a7 1 H3 fun H8=>
 U0 .add (t6.getD 0 undef) (.int .i64 1) fun a5=>
 t5 [a5] H8 Q)) [(.int .i64 0)] H2 nx2) (
 M0 t2 fun a6=>k a6 H2 nx2)) [(.int .i64 0)] H1 ag
theorem spec105(h:F105 a0 a1 H nx k):Q2 Tryz.prog 105 [a0,a1] H nx k:=
 E2 mixed J2 51 6 d105 [(.s 4,none)] (by kernel_rfl) (by kernel_rfl) (by simp) (by kernel_rfl) h
end Go.Proofs.YtoiioigihocgbaaGreatDoor

namespace Go.Proofs.YtoiioigihocgbaaGreatDoor
variable {n:Nat}
theorem N44(h:n<=32):2^n<=4294967296:=Nat.le_trans (Nat.pow_le_pow_right (by omega) h) (by decide)
theorem D46(n:Nat):0<2^n:=Nat.pow_pos (by omega)
theorem X0(hn:n<=32):2^n-1<4294967296:=by have:=N44 hn;have:=D46 n;omega
end Go.Proofs.YtoiioigihocgbaaGreatDoor

namespace Go.Proofs.YtoiioigihocgbaaGreatDoor
open Go.Clo
variable {N:Int} {e i n:Nat} {es:List Nat}
def Z56(v:Value)(H:Y0)(nx:Nat):EP:=fun v' H' nx'=>v'=v/\H=H'/\nx=nx'
theorem U56{n:Nat}(h:n<=32):IntKind.u32.wrap (IntKind.u64.wrap (IntKind.u64.wrap (1*2^min n 64)-1))=((2^n-1:Nat):Int):=by
 have h1:=N44 h;have h2:=D46 n;have e:(1*(2:Int)^min n 64)=((2^n:Nat):Int):=by
  have:min n 64=n:=by omega
  simp[this]
 rw[e];generalize 2^n=m at *
 simp only[IntKind.wrap,IntKind.signed,IntKind.bits];simp;omega
theorem M26{n:Nat}(hn:n<=32)(k:VP):(U0 .shl (.int .u64 1) (.int .i64 (n:Int)) fun t4=>U0 .sub t4 (.int .u64 1) fun t5=>W8 .u32 t5 k)=k (.int .u32 ((2^n-1:Nat):Int)):=by
 have h0:¬ (n:Int)<0:=by omega
 rw[X6];simp only[R9,N4,C18,cond_true,h0,if_false,Option.elim_some,R11,Z32];rw[<- U56 hn];rfl
theorem C51{n:Nat}(hn:n<=32)(H:Y0)(nx:Nat):Q2 Tryz.prog 61 [.int .i64 (n:Int)] H nx (Z56 (.int .u32 ((2^n-1:Nat):Int)) H nx):=by
 refine spec61 ?_;unfold F61;simp only[M26 hn,Y5];exact⟨rfl,rfl,rfl⟩
abbrev gv(N:Int)(A:Option Addr)(len cap:Nat):Value := .agg ⟨[.int .i64 N,.slice A len cap]⟩
def N3(N:Int)(es:List Nat):Int:=if N<0\/32<N then 3 else if 64<es.length then 12 else if ∃ e ∈ es,2^N.toNat<=e then 1 else 0
theorem Q29(h:N<0\/32<N):N3 N es=3:=by simp[N3,h]
theorem J53(h1:0<=N)(h2:N<=32)(h:64<es.length):N3 N es=12:=by
 have:¬ (N<0\/32<N):=by omega
 simp[N3,h,this]
theorem D56(h1:n<=32)(h:es.length<=64)(he:es[i]? = some e)(hb:2^n<=e):N3 n es=1:=by
 have a1:¬ ((n:Int)<0\/32<(n:Int)):=by omega
 have a2:¬ 64<es.length:=by omega
 simp[N3,a1,a2];exact⟨e,List.mem_of_getElem? he,hb⟩
theorem V11{n:Nat}{es:List Nat}(h1:n<=32)(h:es.length<=64)(hb:∀(i e:Nat),es[i]? = some e->e<2^n):N3 n es=0:=by
 have a1:¬ ((n:Int)<0\/32<(n:Int)):=by omega
 have a2:¬ 64<es.length:=by omega
 simp[N3,a1,a2];intro e he;obtain⟨i,hi,rfl⟩:=List.getElem_of_mem he;exact hb i _ (List.getElem?_eq_getElem hi)
theorem X49(he:e<4294967296):decide (Z2 e (2^n-1)≠0)=decide (2^n<=e):=by
 congr 1;apply propext
 constructor
 .intro h
  rcases Nat.lt_or_ge e (2^n) with g | g
  .exfalso;apply h
   apply Nat.eq_of_testBit_eq;intro i;rw[N1,Nat.testBit_two_pow_sub_one]
   by_cases hi:i<n
   .simp[hi]
   .rw[Nat.testBit_lt_two_pow (Nat.lt_of_lt_of_le g (Nat.pow_le_pow_right (n:=2) (by omega) (show n<=i by omega)))];simp
  .exact g
 .intro h h0
  obtain⟨i,hi,hb⟩:=Nat.exists_ge_and_testBit_of_ge_two_pow h;have:=N1 e (2^n-1) i;rw[h0,hb,Nat.testBit_two_pow_sub_one] at this;have E:¬ i<n:=by omega
  simp[E] at this
def Q70(f:FuncId):Prop:=∀(N:Int) (A:Option Addr) (es:List Nat) (cap:Nat) (H:Y0) (nx:Nat),Sl H nx A (C0 es)->C4 es ->
 Q2 Tryz.prog f [gv N A es.length cap] H nx fun v H' nx'=>v = .int .i64 (N3 N es)/\D0 H nx H' nx'
theorem N11:Q70 27:=by
 intro N A es cap H nx hS a2;refine spec27 ?_;unfold F27;have hE:D0 H nx (hs H nx (some (.cells [.int .i64 N,.slice A es.length cap] 0))) (nx+1):=(D0.refl H nx).new _ (Nat.le_refl _) (by omega);simp(disch:=first|omega|assumption)only[W0,Z0,Q0.val]
 by_cases h1:N<0
 .simp(disch:=first|omega|assumption)only[W0,R1,h1]
  exact⟨by rw[Q29 (.inl h1)],hE⟩
 by_cases h2:32<N
 .simp(disch:=first|omega|assumption)only[W0,R1,h1,h2]
  exact⟨by rw[Q29 (.inr h2)],hE⟩
 obtain⟨n,rfl⟩:=Int.eq_ofNat_of_zero_le (show 0<=N by omega);simp(disch:=first|omega|assumption)only[W0,R1,h1,h2]
 by_cases h3:64<es.length
 .have O:(64:Int)<(es.length:Int):=by omega
  simp(disch:=first|omega|assumption)only[W0,O];exact⟨by rw[J53 (by omega) (by omega) h3],hE⟩
 have O:¬ (64:Int)<(es.length:Int):=by omega
 simp(disch:=first|omega|assumption)only[W0,O];refine B1 (m:=es.length) (fun m L H' nx'=>∃ i:Nat,m+i=es.length/\L=[.int .i64 (i:Int)]/\(∀(j e:Nat),j<i->es[j]? = some e->e<2^n)/\_=H'/\nx+1=nx') ?_ ⟨0,rfl,rfl,fun j e h=>by omega,rfl,rfl⟩;rintro m ih L _ _ ⟨i,hm,rfl,Z,rfl,rfl⟩ a0
 by_cases hi:i<es.length
 .obtain⟨e,he⟩:∃ e,es[i]? = some e:=⟨_,List.getElem?_eq_getElem hi⟩
  obtain⟨b,o,row,rfl,hb,W,V⟩:=(hS.ext hE).open (i:=i) (by rw[E1];exact hi);have Q:((i:Int)<(es.length:Int)):=by omega
  have J:=a2.get he;simp(disch:=first|omega|assumption)only[W0,Q,X3 W,V _ _ (Q3 he)];refine R0 (C51 (by omega) _ _) ?_;rintro _ _ _ ⟨rfl,rfl,rfl⟩;rw[V17 _ J (X0 (by omega))];simp(disch:=first|omega|assumption)only[W0,X49 J]
  by_cases E:2^n<=e
  .simp(disch:=first|omega|assumption)only[W0,E]
   exact⟨by rw[D56 (by omega) (by omega) he E],hE⟩
  .simp(disch:=first|omega|assumption)only[W0,E]
   refine a0 (m-1) _ _ _ (by omega) ⟨i+1,by omega,by simp,fun j e' hj U => ?_,rfl,rfl⟩
   by_cases a1:j=i
   .subst a1;rw[he] at U;cases U;omega
   .exact Z j e' (by omega) U
 .have Q:¬ ((i:Int)<(es.length:Int)):=by omega
  simp(disch:=first|omega|assumption)only[W0,Q];exact⟨by rw[V11 (by omega) (by omega) fun j e he=>Z j e (by have:j<es.length:=by { rcases Nat.lt_or_ge j es.length with g | g;exact g;rw[List.getElem?_eq_none g] at he;cases he };omega) he],hE⟩
theorem N12{α:Type}{l:List α}{a:α}(h:l[i]? = some a):i<l.length:=by
 rcases Nat.lt_or_ge i l.length with g | g
 .exact g
 .rw[List.getElem?_eq_none g] at h;cases h
def Q6(N free:Int)(es:List Nat):Int:=if N3 N es≠0 then N3 N es else if free<0\/N<free then 3 else 0
end Go.Proofs.YtoiioigihocgbaaGreatDoor
