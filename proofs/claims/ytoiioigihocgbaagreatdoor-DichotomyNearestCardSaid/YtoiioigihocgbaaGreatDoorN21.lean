/-
  MADE BY PROGRAM (wip/gen/gen.py): functions 85 53 54 86 87 52 19 84 83 50 17 89 56 23 21 20 51 18 4 as marked code,and their claims written out.
-/
import Derived.Test.YtoiioigihocgbaaGreatDoorN18
import Derived.KernelRfl
set_option linter.all false
noncomputable section
namespace Go.Proofs.YtoiioigihocgbaaGreatDoor
open Go.Clo
set_option maxRecDepth 100000
variable {H:Y0} {a0 a1 a2 a3 a4:Value} {k:EP} {nx:Nat}
def d85:D:=X5 Tryz.prog 85 [] [] []
def F85(a0:Value)(H:Y0)(nx:Nat)(k:EP):Prop:=
 wVf (.eqn false (.slice 56)) [a0,(.slice none 0 0)] fun t1=>
 K2 t1 (
 M0 (.slice none 0 0) fun t2=>k t2 H nx) (
 K6 0 1 [.int .u32 0] [] fun t3=>J3 (.cells t3 0) (.slice 0 0) H nx fun t4 H1 E=>
 B5 t4 a0 1 4 H1 E fun t5 H2 nx2=>
 M0 t5 fun t6=>k t6 H2 nx2)
theorem spec85(h:F85 a0 H nx k):Q2 Tryz.prog 85 [a0] H nx k:=
 E2 mixed J2 8 4 d85 [(.s 2,none)] (by kernel_rfl) (by kernel_rfl) (by simp) (by kernel_rfl) h
def d53:D:=X5 Tryz.prog 53 [] [] []
def F53(a0 a1:Value)(H:Y0)(nx:Nat)(k:EP):Prop:=
 Y2 Tryz.prog 88 [a0,a1] H nx fun t1 H1 E=>
 U0 .geq t1 (.int .i64 0) fun t2=>
 M0 t2 fun t3=>k t3 H1 E
theorem spec53(h:F53 a0 a1 H nx k):Q2 Tryz.prog 53 [a0,a1] H nx k:=
 E2 mixed J2 9 4 d53 [(.s 4,none)] (by kernel_rfl) (by kernel_rfl) (by simp) (by kernel_rfl) h
def d54:D:=X5 Tryz.prog 54 [] [] []
def F54(a0:Value)(H:Y0)(nx:Nat)(k:EP):Prop:=
 U0 .neq a0 (.int .u32 0) fun t1=>
 M0 t1 fun t2=>k t2 H nx
theorem spec54(h:F54 a0 H nx k):Q2 Tryz.prog 54 [a0] H nx k:=
 E2 mixed J2 5 3 d54 [(.s 2,none)] (by kernel_rfl) (by kernel_rfl) (by simp) (by kernel_rfl) h
def d86:D:=X5 Tryz.prog 86 [(12,[46])] [[10],[15]] [.one (.tst (.one (.tst (.one (.tst (.one .nil) (.one .nil))) (.one (.one (.one .nil))))) (.one (.one (.one (.one (.one .nil))))))]
def F86(a0 a1:Value)(H:Y0)(nx:Nat)(k:EP):Prop:=
 J3 (.cells [.int .i64 0,.int .i64 0,.int .i64 0] 0) .ptr H nx fun t1 H1 aq=>
 R4 a0 0 H1 fun t2=>
 G3 (fun t3 t4 H2 nx2=>
 U0 .lss (t4.getD 0 undef) t2 fun t5=>
 K2 t5 (
 R4 a0 0 H2 fun t6=>
 G3 (fun t7 t8 H3 a5=>
 U0 .lss (t8.getD 0 undef) t6 fun t9=>
 K2 t9 (
 V4 (fun Q=>
 M2 (a5+29) fun E=>
 U0 .neq (t4.getD 0 undef) (t8.getD 0 undef) fun ao=>
 K3 true ao (
 M3 a1 (t4.getD 0 undef) none 1 fun O=>
 J1 O none H3 fun J=>
 wUn .not J fun au=>
 K3 true au (
 M3 a1 (t8.getD 0 undef) none 1 fun V=>
 J1 V none H3 fun U=>
 wUn .not U fun ai=>
 K3 true ai (
 M3 a0 (t4.getD 0 undef) none 1 fun Z=>
 J1 Z none H3 fun a8=>
 M3 a0 (t8.getD 0 undef) none 1 fun W=>
 J1 W none H3 fun a7=>
 U0 .andNot a8 a7 fun ak=>
 U0 .eql ak (.int .u32 0) fun aa=>
 (((((J1 W none H3 fun ab=>ab=a7)/\True)/\(((J1 Z none H3 fun an=>an=a8)/\True)/\(((J1 V none H3 fun av=>av=U)/\True)/\(((J1 O none H3 fun al=>al=J)/\True)/\True)))))/\(
 Q [aa] H3 E))\/False) (
 (((((J1 V none H3 fun ah=>ah=U)/\True)/\(((J1 O none H3 fun ap=>ap=J)/\True)/\True)))/\(
 Q [(.bool false)] H3 E))\/False)) (
 (((((J1 O none H3 fun aj=>aj=J)/\True)/\True))/\(
 Q [(.bool false)] H3 E))\/False)) (
 ((True)/\(
 Q [(.bool false)] H3 E))\/False)) (fun aw H4 a6=>
 K2 (aw.getD 0 undef) (
 U11 [.int .i64 0,.int .i64 0,.int .i64 0] [(0,1),(1,1),(2,1)] [(0,(t4.getD 0 undef)),(1,(t8.getD 0 undef)),(2,(.int .i64 (-1)))] fun ac=>
 D5 t1 ac 3 H4 fun H6=>
 J1 t1 (some 3) H6 fun ag=>
 M0 (.tuple ⟨[ag,(.bool true)]⟩) fun ad=>k ad H6 a6) (
 U0 .add (t8.getD 0 undef) (.int .i64 1) fun ax=>
 t7 [ax] H4 a6))) (
 U0 .add (t4.getD 0 undef) (.int .i64 1) fun a9=>
 t3 [a9] H3 a5)) [(.int .i64 0)] H2 nx2) (
 U11 [.int .i64 0,.int .i64 0,.int .i64 0] [(0,1),(1,1),(2,1)] [] fun az=>
 D5 t1 az 3 H2 fun H7=>
 J1 t1 (some 3) H7 fun ae=>
 M0 (.tuple ⟨[ae,(.bool false)]⟩) fun ay=>k ay H7 nx2)) [(.int .i64 0)] H1 aq
theorem spec86(h:F86 a0 a1 H nx k):Q2 Tryz.prog 86 [a0,a1] H nx k:=
 E2 mixed J2 53 6 d86 [(.s 4,some (some 3)),(.s 5,none)] (by kernel_rfl) (by kernel_rfl) (by simp) (by kernel_rfl) h
def d87:D:=X5 Tryz.prog 87 [(12,[7,8])] [[11],[7,8,16]] []
def F87(a0 a1:Value)(H:Y0)(nx:Nat)(k:EP):Prop:=
 J3 (.cells [.int .i64 0,.int .i64 0,.int .i64 0] 0) .ptr H nx fun t1 H1 V=>
 G3 (fun t2 t3 H2 nx2=>
 U0 .lss (t3.getD 0 undef) a0 fun t4=>
 K2 t4 (
 R4 a1 0 H2 fun t5=>
 G3 (fun t6 t7 H3 E=>
 U0 .lss (t7.getD 2 undef) t5 fun t8=>
 K2 t8 (
 V4 (fun t9=>
 M3 a1 (t7.getD 2 undef) none 1 fun W=>
 J1 W none H3 fun ae=>
 U0 .shr ae (t3.getD 0 undef) fun a9=>
 U0 .and a9 (.int .u32 1) fun O=>
 U0 .eql O (.int .u32 1) fun Z=>
 K2 Z (
 U0 .add (t7.getD 0 undef) (.int .i64 1) fun a6=>
 t9 [a6,(t7.getD 2 undef)] H3 E) (
 t9 [(t7.getD 0 undef),(t7.getD 1 undef)] H3 E)) (fun J H4 aa=>
 U0 .add (t7.getD 2 undef) (.int .i64 1) fun a5=>
 t6 [(J.getD 0 undef),(J.getD 1 undef),a5] H4 aa)) (
 U0 .eql (t7.getD 0 undef) (.int .i64 1) fun a8=>
 K2 a8 (
 U11 [.int .i64 0,.int .i64 0,.int .i64 0] [(0,1),(1,1),(2,1)] [(0,(t7.getD 1 undef)),(1,(.int .i64 (-1))),(2,(t3.getD 0 undef))] fun a7=>
 D5 t1 a7 3 H3 fun H5=>
 J1 t1 (some 3) H5 fun ag=>
 M0 (.tuple ⟨[ag,(.bool true)]⟩) fun U=>k U H5 E) (
 U0 .add (t3.getD 0 undef) (.int .i64 1) fun ab=>
 t2 [ab] H3 E))) [(.int .i64 0),(.int .i64 0),(.int .i64 0)] H2 nx2) (
 U11 [.int .i64 0,.int .i64 0,.int .i64 0] [(0,1),(1,1),(2,1)] [] fun ac=>
 D5 t1 ac 3 H2 fun H6=>
 J1 t1 (some 3) H6 fun Q=>
 M0 (.tuple ⟨[Q,(.bool false)]⟩) fun ad=>k ad H6 nx2)) [(.int .i64 0)] H1 V
theorem spec87(h:F87 a0 a1 H nx k):Q2 Tryz.prog 87 [a0,a1] H nx k:=
 E2 mixed J2 38 6 d87 [(.s 4,some (some 3)),(.s 5,none)] (by kernel_rfl) (by kernel_rfl) (by simp) (by kernel_rfl) h
def d52:D:=X5 Tryz.prog 52 [(8,[])] [[6]] []
def F52(a0:Value)(H:Y0)(nx:Nat)(k:EP):Prop:=
 E5 a0 fun t1=>J3 (.cells t1 0) .ptr H nx fun t2 H1 bx=>
 J1 t2 (some 2) H1 fun t3=>
 Y2 Tryz.prog 27 [t3] H1 bx fun t4 H2 nx2=>
 U0 .neq t4 (.int .i64 0) fun t5=>
 K2 t5 (
 M0 (.tuple ⟨[(.slice none 0 0),(.slice none 0 0)]⟩) fun t6=>k t6 H2 nx2) (
 B4 t2 1 fun t7=>
 J1 t7 none H2 fun t8=>
 Y2 Tryz.prog 85 [t8] H2 nx2 fun t9 H3 bk=>
 R4 t9 0 H3 fun a6=>
 D30 a6 a6 [.bool false] fun c3 c7 bu=>J3 (.cells c3 0) (.slice c7 bu) H3 bk fun a5 H4 av=>
 G3 (fun az a8 H5 aj=>
 Y2 Tryz.prog 86 [t9,a5] H5 aj fun a7 H6 bc=>
 G9 a7 0 fun aq=>
 G9 a7 1 fun ap=>
 J3 (.cells [.int .i64 0,.int .i64 0,.int .i64 0] 0) .ptr H6 bc fun J H7 V=>
 D5 J aq 3 H7 fun H8=>
 V4 (fun ac=>
 K2 ap (
 B4 J 0 fun au=>
 J1 au none H8 fun ak=>
 M3 t9 ak none 1 fun bo=>
 D5 bo (.int .u32 0) 1 H8 fun ae=>
 B4 J 0 fun b3=>
 J1 b3 none ae fun bt=>
 M3 a5 bt none 1 fun al=>
 D5 al (.bool true) 1 ae fun aw=>
 ac [] aw V) (
 B4 t2 0 fun ax=>
 J1 ax none H8 fun bh=>
 Y2 Tryz.prog 87 [bh,t9] H8 V fun Z c6 O=>
 G9 Z 0 fun an=>
 G9 Z 1 fun bf=>
 D5 J an 3 c6 fun E=>
 K2 bf (
 M2 (O+11) fun ah=>
 B4 J 0 fun U=>
 J1 U none E fun Q=>
 M3 t9 Q none 1 fun ab=>
 J1 ab none E fun aa=>
 B4 J 2 fun ad=>
 J1 ad none E fun a9=>
 U0 .shl (.int .u32 1) a9 fun bv=>
 U0 .andNot aa bv fun ba=>
 M3 t9 Q none 1 fun bg=>
 D5 bg ba 1 E fun c8=>
 (((((True)/\((J1 ad none E fun c9=>c9=a9)/\True))/\(((True)/\((J1 ab none E fun b8=>b8=aa)/\True))/\(((True)/\((J1 U none E fun ay=>ay=Q)/\True))/\True))))/\(
 ac [] c8 ah))\/False) (
 M0 (.tuple ⟨[(a8.getD 0 undef),t9]⟩) fun ai=>k ai E O))) (fun ca H9 bz=>
 J1 J (some 3) H9 fun bw=>
 K6 1 3 [.int .i64 0,.int .i64 0,.int .i64 0] [(0,bw)] fun ao=>J3 (.cells ao 0) (.slice 1 1) H9 bz fun c4 b5 ag=>
 B5 (a8.getD 0 undef) c4 3 24 b5 ag fun bd b4 W=>
 az [bd] b4 W)) [(.slice none 0 0)] H4 av)
theorem spec52(h:F52 a0 H nx k):Q2 Tryz.prog 52 [a0] H nx k:=
 E2 mixed J2 57 6 d52 [(.s 2,none),(.s 3,none)] (by kernel_rfl) (by kernel_rfl) (by simp) (by kernel_rfl) h
def d19:D:=X5 Tryz.prog 19 [] [] []
def F19(a0:Value)(H:Y0)(nx:Nat)(k:EP):Prop:=
 E5 a0 fun t1=>J3 (.cells t1 0) .ptr H nx fun t2 H1 E=>
 J1 t2 (some 2) H1 fun t3=>
 Y2 Tryz.prog 27 [t3] H1 E fun t4 H2 nx2=>
 U0 .neq t4 (.int .i64 0) fun t5=>
 K2 t5 (
 M0 (.bool false) fun t6=>k t6 H2 nx2) (
 J1 t2 (some 2) H2 fun t7=>
 Y2 Tryz.prog 52 [t7] H2 nx2 fun t8 H3 O=>
 G9 t8 0 fun t9=>
 G9 t8 1 fun W=>
 Y2 Tryz.prog 53 [W,(.func (.func 54) ⟨[]⟩ ⟨[]⟩)] H3 O fun J H4 U=>
 wUn .not J fun V=>
 M0 V fun Q=>k Q H4 U)
theorem spec19(h:F19 a0 H nx k):Q2 Tryz.prog 19 [a0] H nx k:=
 E2 mixed J2 16 5 d19 [(.s 2,none)] (by kernel_rfl) (by kernel_rfl) (by simp) (by kernel_rfl) h
def d84:D:=X5 Tryz.prog 84 [(7,[26])] [[8]] [.one (.tst (.one .nil) (.one .nil))]
def F84(a0 a1:Value)(H:Y0)(nx:Nat)(k:EP):Prop:=
 R4 a0 0 H fun t1=>
 G3 (fun t2 t3 H1 E=>
 U0 .lss (t3.getD 0 undef) t1 fun t4=>
 K2 t4 (
 V4 (fun t5=>
 M2 (E+16) fun O=>
 U0 .shr a1 (t3.getD 0 undef) fun t7=>
 U0 .and t7 (.int .u32 1) fun t8=>
 U0 .eql t8 (.int .u32 1) fun t9=>
 K3 true t9 (
 M3 a0 (t3.getD 0 undef) none 1 fun Q=>
 J1 Q none H1 fun J=>
 U0 .andNot a1 J fun a6=>
 U0 .shl (.int .u32 1) (t3.getD 0 undef) fun a5=>
 U0 .neq a6 a5 fun a7=>
 (((((J1 Q none H1 fun U=>U=J)/\True)/\True))/\(
 t5 [a7] H1 O))\/False) (
 ((True)/\(
 t5 [(.bool false)] H1 O))\/False)) (fun t6 H2 nx2=>
 K2 (t6.getD 0 undef) (
 M0 (.bool false) fun W=>k W H2 nx2) (
 U0 .add (t3.getD 0 undef) (.int .i64 1) fun V=>
 t2 [V] H2 nx2))) (
 M0 (.bool true) fun Z=>k Z H1 E)) [(.int .i64 0)] H nx
theorem spec84(h:F84 a0 a1 H nx k):Q2 Tryz.prog 84 [a0,a1] H nx k:=
 E2 mixed J2 28 5 d84 [(.s 4,none)] (by kernel_rfl) (by kernel_rfl) (by simp) (by kernel_rfl) h
def d83:D:=X5 Tryz.prog 83 [(1,[18]),(8,[]),(10,[44])] [[27]] [.one (.tst (.one .nil) (.one .nil)),.one (.tst (.one .nil) (.one .nil))]
def F83(a0 a1 a2 a3 a4 a5 a6 a7 a8:Value)(H:Y0)(nx:Nat)(k:EP):Prop:=
 V4 (fun t1=>
 J1 a3 none H fun t3=>
 K3 true t3 (
 J1 a4 none H fun t4=>
 U0 .geq a2 t4 fun t5=>
 t1 [t5] H nx) (
 t1 [(.bool false)] H nx)) (fun t2 H1 Q=>
 K2 (t2.getD 0 undef) (
 M0 (.tuple ⟨[]⟩) fun t6=>k t6 H1 Q) (
 R4 a0 0 H1 fun t7=>
 J1 a5 none H1 fun t8=>
 U0 .eql t7 t8 fun t9=>
 K2 t9 (
 Y2 Tryz.prog 26 [a0] H1 Q fun aw H2 nx2=>
 D5 a6 aw 1 H2 fun H3=>
 D5 a4 a2 1 H3 fun H4=>
 D5 a3 (.bool true) 1 H4 fun H5=>
 M0 (.tuple ⟨[]⟩) fun bv=>k bv H5 nx2) (
 J1 a5 none H1 fun av=>
 G3 (fun bx E H6 ae=>
 U0 .lss (E.getD 0 undef) av fun az=>
 K2 az (
 V4 (fun ad=>
 V4 (fun Z=>
 M2 (ae+15) fun aj=>
 U0 .shr a1 (E.getD 0 undef) fun b8=>
 U0 .and b8 (.int .u32 1) fun bd=>
 U0 .eql bd (.int .u32 0) fun b3=>
 K3 true b3 (
 J1 a7 none H6 fun aa=>
 J1 a7 none H6 fun U=>
 M3 U (E.getD 0 undef) none 1 fun ah=>
 J1 ah none H6 fun ac=>
 U0 .and ac a1 fun bt=>
 Y2 Tryz.prog 84 [aa,bt] H6 aj fun an bo ag=>
 (((((True)/\((J1 ah none H6 fun au=>au=ac)/\True))/\(((True)/\((J1 a7 none H6 fun bk=>bk=U)/\True))/\(((True)/\((J1 a7 none H6 fun ax=>ax=aa)/\True))/\True))))/\(
 Z [an] bo ag))\/False) (
 ((True)/\(
 Z [(.bool false)] H6 aj))\/False)) (fun aq H8 O=>
 K2 (aq.getD 0 undef) (
 M2 (O+16) fun W=>
 J1 a8 none H8 fun J=>
 K6 1 1 [.int .i64 0] [(0,(E.getD 0 undef))] fun ao=>wNm O 3 (.slice 1 1) fun bg=>
 hsK H8 (O+3) (some (.cells ao 0)) fun bw=>B5 a0 bg 1 8 bw W fun bz a9 ab=>
 U0 .shl (.int .u32 1) (E.getD 0 undef) fun bc=>
 U0 .or a1 bc fun ba=>
 U0 .shr a1 (E.getD 0 undef) fun bf=>
 Y2 Tryz.prog 44 [bf] a9 ab fun b5 V ak=>
 U0 .add a2 b5 fun bu=>
 M33 Tryz.prog J [bz,ba,bu] V ak fun c7 c3 ai=>
 (((((True)/\((J1 a8 none V fun bh=>bh=J)/\((J1 a8 none a9 fun ay=>ay=J)/\((J1 a8 none H8 fun b4=>b4=J)/\True))))/\True))/\(
 ad [] c3 ai))\/False) (
 ad [] H8 O))) (fun c6 H7 ap=>
 U0 .add (E.getD 0 undef) (.int .i64 1) fun c4=>
 bx [c4] H7 ap)) (
 M0 (.tuple ⟨[]⟩) fun al=>k al H6 ae)) [(.int .i64 0)] H1 Q)))
theorem spec83{a5 a6 a7 a8:Value}(h:F83 a0 a1 a2 a3 a4 a5 a6 a7 a8 H nx k):Q2 Tryz.prog 83 [a0,a1,a2,a3,a4,a5,a6,a7,a8] H nx k:=
 E2 mixed J2 62 6 d83 [] (by kernel_rfl) (by kernel_rfl) (by simp) (by kernel_rfl) h
def d50:D:=X5 Tryz.prog 50 [] [[16]] []
def F50(a0 a1:Value)(H:Y0)(nx:Nat)(k:EP):Prop:=
 E5 a0 fun t1=>J3 (.cells t1 0) .ptr H nx fun t2 H1 bk=>
 E5 a1 fun t3=>J3 (.cells t3 0) .ptr H1 bk fun t4 H2 nx2=>
 J1 t4 none H2 fun t5=>
 D30 t5 t5 [.int .u32 0] fun t6 t8 t9=>J3 (.cells t6 0) (.slice t8 t9) H2 nx2 fun t7 H3 b8=>
 J3 (.cells [.slice none 0 0] 0) .ptr H3 b8 fun Q H4 ba=>
 D5 Q t7 1 H4 fun H5=>
 J1 t4 none H5 fun bo=>
 G3 (fun bd Z H6 a8=>
 U0 .lss (Z.getD 0 undef) bo fun bf=>
 K2 bf (
 M2 (a8+7) fun av=>
 J1 Q none H6 fun a6=>
 J1 t2 (some 2) H6 fun ai=>
 Y2 Tryz.prog 70 [ai,(Z.getD 0 undef)] H6 av fun bt H8 au=>
 M3 a6 (Z.getD 0 undef) none 1 fun b3=>
 D5 b3 bt 1 H8 fun H9=>
 (((((True)/\((True)/\((J1 t2 (some 2) H6 fun an=>an=ai)/\True)))/\(((True)/\((J1 Q none H8 fun ay=>ay=a6)/\((J1 Q none H6 fun c3=>c3=a6)/\True)))/\True)))/\(
 U0 .add (Z.getD 0 undef) (.int .i64 1) fun bw=>
 bd [bw] H9 au))\/False) (
 J3 (.cells [.slice none 0 0] 0) .ptr H6 a8 fun a5 az aa=>
 J3 (.cells [.int .i64 0] 0) .ptr az aa fun U bc ac=>
 J3 (.cells [.bool false] 0) .ptr bc ac fun V bv ag=>
 D5 U (.int .i64 0) 1 bv fun b4=>
 D5 V (.bool false) 1 b4 fun ao=>
 J3 (.cells [.nilFunc] 0) .ptr ao ag fun W c4 J=>
 D5 W (.func (.func 83) ⟨[]⟩ ⟨[V,U,t4,a5,Q,W]⟩) 1 c4 fun O=>
 M2 (J+4) fun ab=>
 J1 W none O fun ad=>
 J1 t4 none O fun a9=>
 D30 (.int .i64 0) a9 [.int .i64 0] fun aw b5 ap=>wNm J 2 (.slice b5 ap) fun bh=>
 hsK O (J+2) (some (.cells aw 0)) fun bu=>M33 Tryz.prog ad [bh,(.int .u32 0),(.int .i64 0)] bu ab fun c6 E ah=>
 (((((True)/\((J1 t4 none O fun bx=>bx=a9)/\True))/\(((True)/\((J1 W none O fun aq=>aq=ad)/\True))/\True)))/\(
 M2 (ah+6) fun ae=>
 J1 a5 none E fun a7=>
 J1 U none E fun ak=>
 J1 V none E fun aj=>
 (((((J1 V none E fun al=>al=aj)/\True)/\(((J1 U none E fun bg=>bg=ak)/\True)/\(((J1 a5 none E fun bz=>bz=a7)/\True)/\True))))/\(
 M0 (.tuple ⟨[a7,ak,aj]⟩) fun ax=>k ax E ae))\/False))\/False)) [(.int .i64 0)] H5 ba
theorem spec50(h:F50 a0 a1 H nx k):Q2 Tryz.prog 50 [a0,a1] H nx k:=
 E2 mixed J2 34 6 d50 [(.s 4,none),(.s 5,none),(.s 6,none)] (by kernel_rfl) (by kernel_rfl) (by simp) (by kernel_rfl) h
def d17:D:=X5 Tryz.prog 17 [] [] []
def F17(a0 a1:Value)(H:Y0)(nx:Nat)(k:EP):Prop:=
 E5 a0 fun t1=>J3 (.cells t1 0) .ptr H nx fun t2 H1 Z=>
 J1 t2 (some 2) H1 fun t3=>
 Y2 Tryz.prog 25 [t3,a1] H1 Z fun t4 H2 nx2=>
 U0 .neq t4 (.int .i64 0) fun t5=>
 K2 t5 (
 M0 (.tuple ⟨[(.slice none 0 0),(.int .i64 0),t4]⟩) fun t6=>k t6 H2 nx2) (
 U0 .gtr a1 (.int .i64 8) fun t7=>
 K2 t7 (
 M0 (.tuple ⟨[(.slice none 0 0),(.int .i64 0),(.int .i64 12)]⟩) fun t8=>k t8 H2 nx2) (
 J1 t2 (some 2) H2 fun t9=>
 Y2 Tryz.prog 19 [t9] H2 nx2 fun ag H3 Q=>
 wUn .not ag fun a5=>
 K2 a5 (
 M0 (.tuple ⟨[(.slice none 0 0),(.int .i64 0),(.int .i64 24)]⟩) fun ad=>k ad H3 Q) (
 J1 t2 (some 2) H3 fun a9=>
 Y2 Tryz.prog 14 [a9,a1] H3 Q fun J H4 U=>
 G9 J 0 fun ah=>
 G9 J 1 fun a7=>
 K2 a7 (
 M0 (.tuple ⟨[(.slice none 0 0),(.int .i64 0),(.int .i64 25)]⟩) fun a6=>k a6 H4 U) (
 J1 t2 (some 2) H4 fun a8=>
 Y2 Tryz.prog 50 [a8,a1] H4 U fun E H5 O=>
 G9 E 0 fun ae=>
 G9 E 1 fun W=>
 G9 E 2 fun aa=>
 wUn .not aa fun ab=>
 K2 ab (
 M0 (.tuple ⟨[(.slice none 0 0),(.int .i64 0),(.int .i64 25)]⟩) fun V=>k V H5 O) (
 M0 (.tuple ⟨[ae,W,(.int .i64 0)]⟩) fun ac=>k ac H5 O)))))
theorem spec17(h:F17 a0 a1 H nx k):Q2 Tryz.prog 17 [a0,a1] H nx k:=
 E2 mixed J2 42 6 d17 [(.s 4,none),(.s 5,none),(.s 6,none)] (by kernel_rfl) (by kernel_rfl) (by simp) (by kernel_rfl) h
def d89:D:=X5 Tryz.prog 89 [(23,[])] [[9,10],[12,13],[16]] []
def F89(a0 a1 a2 a3:Value)(H:Y0)(nx:Nat)(k:EP):Prop:=
 K6 0 1 [.int .i64 0] [] fun t1=>J3 (.cells t1 0) (.slice 0 0) H nx fun t2 H1 bc=>
 B5 t2 a3 1 8 H1 bc fun t3 H2 nx2=>
 U0 .sub a2 (.int .i64 1) fun t4=>
 G3 (fun t5 t6 H3 a8=>
 U0 .geq (t6.getD 1 undef) (.int .i64 0) fun t7=>
 K2 t7 (
 K6 1 1 [.int .i64 0] [(0,(t6.getD 1 undef))] fun t8=>J3 (.cells t8 0) (.slice 1 1) H3 a8 fun t9 H4 aw=>
 B5 (t6.getD 0 undef) t9 1 8 H4 aw fun bz H5 ae=>
 U0 .sub (t6.getD 1 undef) (.int .i64 1) fun bg=>
 t5 [bz,bg] H5 ae) (
 Y2 Tryz.prog 105 [a0,a1] H3 a8 fun W H6 ag=>
 W8 .u64 a1 fun bu=>
 U0 .shl (.int .u32 1) bu fun b3=>
 U0 .sub b3 (.int .u32 1) fun bd=>
 G3 (fun bk J H7 a6=>
 R4 (t6.getD 0 undef) 0 H7 fun aq=>
 U0 .lss (J.getD 1 undef) aq fun ao=>
 K2 ao (
 M3 (t6.getD 0 undef) (J.getD 1 undef) none 1 fun bx=>
 J1 bx none H7 fun Q=>
 W8 .u64 Q fun bt=>
 U0 .shl (.int .u32 1) bt fun av=>
 U0 .andNot (J.getD 0 undef) av fun Z=>
 M3 W Q none 1 fun ay=>
 J1 ay none H7 fun bf=>
 U0 .and bf Z fun V=>
 W8 .u64 Q fun ah=>
 U0 .shl (.int .u32 1) ah fun b5=>
 U0 .or V b5 fun al=>
 Y2 Tryz.prog 62 [a0,al] H7 a6 fun au H8 a5=>
 wUn .not au fun ai=>
 K2 ai (
 M0 (.bool false) fun ak=>k ak H8 a5) (
 G3 (fun aj E H9 a9=>
 U0 .lss (E.getD 0 undef) a1 fun ab=>
 K2 ab (
 V4 (fun aa=>
 Y2 Tryz.prog 55 [V,(E.getD 0 undef)] H9 a9 fun bw U O=>
 K2 bw (
 M3 W (E.getD 0 undef) none 1 fun b4=>
 J1 b4 none U fun ac=>
 U0 .or ac V fun an=>
 W8 .u64 (E.getD 0 undef) fun ba=>
 U0 .shl (.int .u32 1) ba fun bv=>
 U0 .andNot an bv fun ax=>
 M3 W (E.getD 0 undef) none 1 fun ad=>
 D5 ad ax 1 U fun bo=>
 aa [] bo O) (
 aa [] U O)) (fun c3 ap a7=>
 U0 .add (E.getD 0 undef) (.int .i64 1) fun b8=>
 aj [b8] ap a7)) (
 U0 .add (J.getD 1 undef) (.int .i64 1) fun az=>
 bk [Z,az] H9 a9)) [(.int .i64 0)] H8 a5)) (
 M0 (.bool true) fun bh=>k bh H7 a6)) [bd,(.int .i64 0)] H6 ag)) [t3,t4] H2 nx2
theorem spec89(h:F89 a0 a1 a2 a3 H nx k):Q2 Tryz.prog 89 [a0,a1,a2,a3] H nx k:=
 E2 mixed J2 87 7 d89 [(.s 8,none)] (by kernel_rfl) (by kernel_rfl) (by simp) (by kernel_rfl) h
def d56:D:=X5 Tryz.prog 56 [(14,[10]),(15,[57])] [[9],[10,11]] [.one (.tst (.one .nil) (.one .nil)),.one (.tst (.one .nil) (.one .nil))]
def F56(a0 a1 a2 a3:Value)(H:Y0)(nx:Nat)(k:EP):Prop:=
 R4 a3 0 H fun t1=>
 U0 .sub a1 a2 fun t2=>
 U0 .eql t1 t2 fun t3=>
 K2 t3 (
 Y2 Tryz.prog 89 [a0,a1,a2,a3] H nx fun t4 H1 al=>
 M0 t4 fun t5=>k t5 H1 al) (
 G3 (fun t6 t7 H2 nx2=>
 U0 .lss (t7.getD 0 undef) a1 fun t8=>
 K2 t8 (
 G3 (fun t9 E H3 J=>
 R4 a3 0 H3 fun ap=>
 U0 .lss (E.getD 1 undef) ap fun ai=>
 K2 ai (
 V4 (fun V=>
 K3 false (E.getD 0 undef) (
 M3 a3 (E.getD 1 undef) none 1 fun an=>
 J1 an none H3 fun av=>
 U0 .eql av (t7.getD 0 undef) fun au=>
 V [au] H3 J) (
 V [(.bool true)] H3 J)) (fun aj H4 ae=>
 U0 .add (E.getD 1 undef) (.int .i64 1) fun ab=>
 t9 [(aj.getD 0 undef),ab] H4 ae)) (
 V4 (fun U=>
 wUn .not (E.getD 0 undef) fun a6=>
 K3 true a6 (
 K6 0 1 [.int .i64 0] [] fun aw=>J3 (.cells aw 0) (.slice 0 0) H3 J fun ad H6 W=>
 B5 ad a3 1 8 H6 W fun Z H7 a8=>
 K6 1 1 [.int .i64 0] [(0,(t7.getD 0 undef))] fun ag=>J3 (.cells ag 0) (.slice 1 1) H7 a8 fun ao H8 a7=>
 B5 Z ao 1 8 H8 a7 fun ah H9 aq=>
 Y2 Tryz.prog 56 [a0,a1,a2,ah] H9 aq fun a5 aa Q=>
 U [a5] aa Q) (
 U [(.bool false)] H3 J)) (fun ax H5 O=>
 K2 (ax.getD 0 undef) (
 M0 (.bool true) fun ak=>k ak H5 O) (
 U0 .add (t7.getD 0 undef) (.int .i64 1) fun a9=>
 t6 [a9] H5 O)))) [(.bool false),(.int .i64 0)] H2 nx2) (
 M0 (.bool false) fun ac=>k ac H2 nx2)) [a2] H nx)
theorem spec56(h:F56 a0 a1 a2 a3 H nx k):Q2 Tryz.prog 56 [a0,a1,a2,a3] H nx k:=
 E2 mixed J2 58 6 d56 [(.s 8,none)] (by kernel_rfl) (by kernel_rfl) (by simp) (by kernel_rfl) h
def d23:D:=X5 Tryz.prog 23 [] [] []
def F23(a0 a1 a2:Value)(H:Y0)(nx:Nat)(k:EP):Prop:=
 Y2 Tryz.prog 56 [a0,a1,a2,(.slice none 0 0)] H nx fun t1 H1 E=>
 M0 t1 fun t2=>k t2 H1 E
theorem spec23(h:F23 a0 a1 a2 H nx k):Q2 Tryz.prog 23 [a0,a1,a2] H nx k:=
 E2 mixed J2 11 4 d23 [(.s 6,none)] (by kernel_rfl) (by kernel_rfl) (by simp) (by kernel_rfl) h
def d21:D:=X5 Tryz.prog 21 [(17,[7])] [[5,6],[7,8],[7,9]] []
def F21(a0 a1:Value)(H:Y0)(nx:Nat)(k:EP):Prop:=
 G3 (fun t1 t2 H1 Z=>
 R4 a0 0 H1 fun t3=>
 U0 .lss (t2.getD 1 undef) t3 fun t4=>
 K2 t4 (
 M3 a0 (t2.getD 1 undef) none 1 fun t5=>
 J1 t5 none H1 fun t6=>
 G3 (fun t7 t8 H2 nx2=>
 R4 a1 0 H2 fun t9=>
 U0 .lss (t8.getD 1 undef) t9 fun az=>
 K2 az (
 W8 .u64 (t8.getD 1 undef) fun au=>
 U0 .shl (.int .u32 1) au fun al=>
 U0 .andNot (t8.getD 0 undef) al fun aw=>
 U0 .add (t8.getD 1 undef) (.int .i64 1) fun an=>
 t7 [aw,an] H2 nx2) (
 G3 (fun ap E H3 V=>
 R4 a1 0 H3 fun av=>
 U0 .lss (E.getD 1 undef) av fun ag=>
 K2 ag (
 V4 (fun U=>
 M2 (V+9) fun a7=>
 M3 a0 (t2.getD 1 undef) none 1 fun Q=>
 J1 Q none H3 fun a5=>
 M3 a1 (E.getD 1 undef) none 1 fun W=>
 J1 W none H3 fun J=>
 Y2 Tryz.prog 55 [a5,J] H3 a7 fun aj H6 O=>
 (((((True)/\((J1 W none H3 fun ak=>ak=J)/\True))/\(((True)/\((J1 Q none H3 fun aq=>aq=a5)/\True))/\True)))/\(
 K2 aj (
 W8 .u64 (E.getD 1 undef) fun a8=>
 U0 .shl (.int .u32 1) a8 fun ao=>
 U0 .or (E.getD 0 undef) ao fun ae=>
 U [ae] H6 O) (
 U [(E.getD 0 undef)] H6 O)))\/False) (fun ay H4 ai=>
 U0 .add (E.getD 1 undef) (.int .i64 1) fun ah=>
 ap [(ay.getD 0 undef),ah] H4 ai)) (
 K6 1 1 [.int .u32 0] [(0,(E.getD 0 undef))] fun a9=>J3 (.cells a9 0) (.slice 1 1) H3 V fun ad H7 ac=>
 B5 (t2.getD 0 undef) ad 1 4 H7 ac fun aa H8 ab=>
 U0 .add (t2.getD 1 undef) (.int .i64 1) fun ax=>
 t1 [aa,ax] H8 ab)) [(t8.getD 0 undef),(.int .i64 0)] H2 nx2)) [t6,(.int .i64 0)] H1 Z) (
 M0 (t2.getD 0 undef) fun a6=>k a6 H1 Z)) [(.slice none 0 0),(.int .i64 0)] H nx
theorem spec21(h:F21 a0 a1 H nx k):Q2 Tryz.prog 21 [a0,a1] H nx k:=
 E2 mixed J2 56 6 d21 [(.s 4,none)] (by kernel_rfl) (by kernel_rfl) (by simp) (by kernel_rfl) h
def d20:D:=X5 Tryz.prog 20 [(10,[3])] [[3,4],[3,5]] []
def F20(a0:Value)(H:Y0)(nx:Nat)(k:EP):Prop:=
 G3 (fun t1 t2 H1 E=>
 R4 a0 0 H1 fun t3=>
 U0 .lss (t2.getD 1 undef) t3 fun t4=>
 K2 t4 (
 U0 .add (t2.getD 1 undef) (.int .i64 1) fun t5=>
 G3 (fun t6 t7 H2 nx2=>
 R4 a0 0 H2 fun t8=>
 U0 .lss (t7.getD 1 undef) t8 fun t9=>
 K2 t9 (
 V4 (fun W=>
 M2 (nx2+9) fun Q=>
 M3 a0 (t2.getD 1 undef) none 1 fun U=>
 J1 U none H2 fun O=>
 M3 a0 (t7.getD 1 undef) none 1 fun V=>
 J1 V none H2 fun J=>
 U0 .gtr O J fun a7=>
 (((((J1 V none H2 fun a9=>a9=J)/\True)/\(((J1 U none H2 fun a6=>a6=O)/\True)/\True)))/\(
 K2 a7 (
 U0 .add (t7.getD 0 undef) (.int .i64 1) fun a8=>
 W [a8] H2 Q) (
 W [(t7.getD 0 undef)] H2 Q)))\/False) (fun a5 H3 aa=>
 U0 .add (t7.getD 1 undef) (.int .i64 1) fun ac=>
 t6 [(a5.getD 0 undef),ac] H3 aa)) (
 U0 .add (t2.getD 1 undef) (.int .i64 1) fun Z=>
 t1 [(t7.getD 0 undef),Z] H2 nx2)) [(t2.getD 0 undef),t5] H1 E) (
 M0 (t2.getD 0 undef) fun ab=>k ab H1 E)) [(.int .i64 0),(.int .i64 0)] H nx
theorem spec20(h:F20 a0 H nx k):Q2 Tryz.prog 20 [a0] H nx k:=
 E2 mixed J2 32 6 d20 [(.s 2,none)] (by kernel_rfl) (by kernel_rfl) (by simp) (by kernel_rfl) h
def d51:D:=X5 Tryz.prog 51 [(4,[34]),(11,[4]),(17,[12])] [[4,11],[12,13]] [.one (.tst (.one (.tst (.one .nil) (.one .nil))) (.one (.one (.one .nil)))),.one (.tst (.one .nil) (.one .nil))]
def F51(a0 a1 a2 a3 a4:Value)(H:Y0)(nx:Nat)(k:EP):Prop:=
 R4 a3 0 H fun t1=>
 U0 .eql t1 a2 fun t2=>
 K2 t2 (
 V4 (fun t3=>
 wVf (.eqn false (.slice 3)) [a4,(.slice none 0 0)] fun t5=>
 K3 false t5 (
 Y2 Tryz.prog 20 [a3] H nx fun t6 H2 nx2=>
 Y2 Tryz.prog 20 [a4] H2 nx2 fun t7 H3 a5=>
 U0 .lss t6 t7 fun t8=>
 K3 true t8 (
 Y2 Tryz.prog 21 [a0,a3] H3 a5 fun t9 H4 av=>
 Y2 Tryz.prog 23 [t9,a1,a2] H4 av fun bz H5 ad=>
 t3 [bz] H5 ad) (
 t3 [(.bool false)] H3 a5)) (
 Y2 Tryz.prog 21 [a0,a3] H nx fun ba H6 ae=>
 Y2 Tryz.prog 23 [ba,a1,a2] H6 ae fun az H7 ak=>
 t3 [az] H7 ak)) (fun t4 H1 a9=>
 K2 (t4.getD 0 undef) (
 M0 a3 fun bo=>k bo H1 a9) (
 M0 a4 fun b3=>k b3 H1 a9))) (
 G3 (fun b5 E H8 V=>
 U0 .lss (E.getD 1 undef) a2 fun bd=>
 K2 bd (
 V4 (fun Z=>
 G3 (fun bv Q O J=>
 R4 a3 0 O fun bk=>
 U0 .lss (Q.getD 1 undef) bk fun au=>
 K2 au (
 V4 (fun U=>
 K3 false (Q.getD 0 undef) (
 M3 a3 (Q.getD 1 undef) none 1 fun b8=>
 J1 b8 none O fun ay=>
 U0 .eql ay (E.getD 1 undef) fun ag=>
 U [ag] O J) (
 U [(.bool true)] O J)) (fun ax aw W=>
 U0 .add (Q.getD 1 undef) (.int .i64 1) fun b4=>
 bv [(ax.getD 0 undef),b4] aw W)) (
 wUn .not (Q.getD 0 undef) fun an=>
 K2 an (
 K6 0 1 [.int .i64 0] [] fun ap=>J3 (.cells ap 0) (.slice 0 0) O J fun ah bf aa=>
 B5 ah a3 1 8 bf aa fun al aq a8=>
 K6 1 1 [.int .i64 0] [(0,(E.getD 1 undef))] fun ai=>J3 (.cells ai 0) (.slice 1 1) aq a8 fun bt aj ab=>
 B5 al bt 1 8 aj ab fun ac bw a7=>
 Y2 Tryz.prog 51 [a0,a1,a2,ac,(E.getD 0 undef)] bw a7 fun bx bh a6=>
 Z [bx] bh a6) (
 Z [(E.getD 0 undef)] O J))) [(.bool false),(.int .i64 0)] H8 V) (fun ao H9 bc=>
 U0 .add (E.getD 1 undef) (.int .i64 1) fun bg=>
 b5 [(ao.getD 0 undef),bg] H9 bc)) (
 M0 (E.getD 0 undef) fun bu=>k bu H8 V)) [a4,(.int .i64 0)] H nx)
theorem spec51(h:F51 a0 a1 a2 a3 a4 H nx k):Q2 Tryz.prog 51 [a0,a1,a2,a3,a4] H nx k:=
 E2 mixed J2 71 7 d51 [(.s 10,none)] (by kernel_rfl) (by kernel_rfl) (by simp) (by kernel_rfl) h
def d18:D:=X5 Tryz.prog 18 [] [] []
def F18(a0 a1 a2:Value)(H:Y0)(nx:Nat)(k:EP):Prop:=
 U0 .eql a2 (.int .i64 0) fun t1=>
 K2 t1 (
 Y2 Tryz.prog 23 [a0,a1,(.int .i64 0)] H nx fun t2 H1 E=>
 M0 (.tuple ⟨[(.slice none 0 0),t2]⟩) fun t3=>k t3 H1 E) (
 Y2 Tryz.prog 51 [a0,a1,a2,(.slice none 0 0),(.slice none 0 0)] H nx fun t4 H2 nx2=>
 wVf (.eqn true (.slice 3)) [t4,(.slice none 0 0)] fun t5=>
 M0 (.tuple ⟨[t4,t5]⟩) fun t6=>k t6 H2 nx2)
theorem spec18(h:F18 a0 a1 a2 H nx k):Q2 Tryz.prog 18 [a0,a1,a2] H nx k:=
 E2 mixed J2 21 5 d18 [(.s 6,none),(.s 7,none)] (by kernel_rfl) (by kernel_rfl) (by simp) (by kernel_rfl) h
def d4:D:=X5 Tryz.prog 4 [(5,[32]),(16,[11])] [] [.one (.tst (.tst (.one (.tst (.one (.one .nil)) (.one (.one .nil)))) (.one (.one (.one (.one .nil))))) (.one (.one (.one (.one (.one .nil)))))),.one (.tst (.one (.tst (.one .nil) (.one .nil))) (.one (.one (.one .nil)))),.one (.tst (.one (.tst (.one .nil) (.one .nil))) (.one (.one (.one .nil)))),.one (.tst (.one (.tst (.one .nil) (.one .nil))) (.one (.one (.one .nil))))]
def F4(a0 a1:Value)(H:Y0)(nx:Nat)(k:EP):Prop:=
 E5 a0 fun t1=>J3 (.cells t1 0) .ptr H nx fun t2 H1 c6=>
 Y2 Tryz.prog 8 [] H1 c6 fun t3 H2 nx2=>
 wUn .not t3 fun t4=>
 K2 t4 (
 M0 (.bool false) fun t5=>k t5 H2 nx2) (
 V4 (fun t6=>
 J1 t2 (some 2) H2 fun t8=>
 Y2 Tryz.prog 9 [t8,a1] H2 nx2 fun t9 H4 E=>
 wUn .not t9 fun az=>
 K3 false az (
 U0 .gtr a1 (.int .i64 4) fun c7=>
 K3 true c7 (
 B4 t2 0 fun ay=>
 J1 ay none H4 fun cd=>
 U0 .leq cd (.int .i64 32) fun bx=>
 K3 true bx (
 B4 t2 0 fun b5=>
 J1 b5 none H4 fun bc=>
 U0 .leq a1 bc fun ba=>
 t6 [ba] H4 E) (
 t6 [(.bool false)] H4 E)) (
 t6 [(.bool false)] H4 E)) (
 t6 [(.bool true)] H4 E)) (fun t7 H3 ab=>
 K2 (t7.getD 0 undef) (
 M0 (.bool true) fun aq=>k aq H3 ab) (
 J1 t2 (some 2) H3 fun ap=>
 Y2 Tryz.prog 17 [ap,a1] H3 ab fun Z H5 ag=>
 G9 Z 0 fun a5=>
 G9 Z 1 fun W=>
 G9 Z 2 fun V=>
 J1 t2 (some 2) H5 fun ah=>
 Y2 Tryz.prog 11 [ah,a1] H5 ag fun ac H6 J=>
 U0 .neq ac (.int .i64 0) fun b8=>
 K2 b8 (
 U0 .eql V ac fun bw=>
 K3 true bw (
 R4 a5 0 H6 fun ai=>
 U0 .eql ai (.int .i64 0) fun b3=>
 K3 true b3 (
 U0 .eql W (.int .i64 0) fun bu=>
 M0 bu fun au=>k au H6 J) (
 M0 (.bool false) fun aj=>k aj H6 J)) (
 M0 (.bool false) fun bt=>k bt H6 J)) (
 B4 t2 1 fun al=>
 J1 al none H6 fun ce=>
 B4 t2 0 fun bg=>
 J1 bg none H6 fun bf=>
 Y2 Tryz.prog 18 [ce,bf,a1] H6 J fun a8 H7 U=>
 G9 a8 0 fun a7=>
 G9 a8 1 fun bz=>
 wUn .not bz fun bh=>
 K2 bh (
 V4 (fun a9=>
 J1 t2 (some 2) H7 fun bd=>
 Y2 Tryz.prog 19 [bd] H7 U fun cf H9 ad=>
 wUn .not cf fun ae=>
 K2 ae (
 a9 [(.int .i64 24)] H9 ad) (
 a9 [(.int .i64 25)] H9 ad)) (fun b4 H8 Q=>
 U0 .eql V (b4.getD 0 undef) fun c4=>
 K3 true c4 (
 R4 a5 0 H8 fun ak=>
 U0 .eql ak (.int .i64 0) fun c8=>
 K3 true c8 (
 U0 .eql W (.int .i64 0) fun bo=>
 M0 bo fun an=>k an H8 Q) (
 M0 (.bool false) fun bv=>k bv H8 Q)) (
 M0 (.bool false) fun ax=>k ax H8 Q))) (
 U0 .eql V (.int .i64 0) fun c3=>
 K3 true c3 (
 Y2 Tryz.prog 13 [a5,a7] H7 U fun cc aa O=>
 K3 true cc (
 Y2 Tryz.prog 20 [a7] aa O fun ca aw a6=>
 U0 .eql W ca fun bk=>
 M0 bk fun c9=>k c9 aw a6) (
 M0 (.bool false) fun ao=>k ao aa O)) (
 M0 (.bool false) fun av=>k av H7 U))))))
theorem spec4(h:F4 a0 a1 H nx k):Q2 Tryz.prog 4 [a0,a1] H nx k:=
 E2 mixed J2 96 7 d4 [(.s 4,none)] (by kernel_rfl) (by kernel_rfl) (by simp) (by kernel_rfl) h
end Go.Proofs.YtoiioigihocgbaaGreatDoor
