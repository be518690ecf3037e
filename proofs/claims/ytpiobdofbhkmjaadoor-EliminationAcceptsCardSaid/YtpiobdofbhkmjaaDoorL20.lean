/-
  MADE BY PROGRAM (wip/gen/gen.py): functions 25 66 47 48 85 65 22 42 21 26 17 44 28 49 27 50 29 51 30 24 23 7 as marked code,and their claims written out.
-/
import Derived.Test.YtpiobdofbhkmjaaDoorL19
import Derived.KernelRfl
set_option linter.unusedSimpArgs false
set_option linter.unusedVariables false
set_option linter.unusedSectionVars false
namespace Go.Proofs.YtpiobdofbhkmjaaDoor
open Go.Clo
set_option maxRecDepth 100000
variable {H:Y0} {a0 a1 a2 a3:Value} {k:EP} {nx:Nat}
noncomputable def d25:D:=Y5 Tryd.prog 25 [] [] []
noncomputable def F25 (a0:Value) (H:Y0) (nx:Nat) (k:EP):Prop:=
 E2 (nx+19) fun nx1=>
 J0 .shr a0 (.int .u64 24) fun t1=>
 wVf .sidx [(.string ⟨#[0,1,1,2,1,2,2,3,1,2,2,3,2,3,3,4,1,2,2,3,2,3,3,4,2,3,3,4,3,4,4,5,1,2,2,3,2,3,3,4,2,3,3,4,3,4,4,5,2,3,3,4,3,4,4,5,3,4,4,5,4,5,5,6,1,2,2,3,2,3,3,4,2,3,3,4,3,4,4,5,2,3,3,4,3,4,4,5,3,4,4,5,4,5,5,6,2,3,3,4,3,4,4,5,3,4,4,5,4,5,5,6,3,4,4,5,4,5,5,6,4,5,5,6,5,6,6,7,1,2,2,3,2,3,3,4,2,3,3,4,3,4,4,5,2,3,3,4,3,4,4,5,3,4,4,5,4,5,5,6,2,3,3,4,3,4,4,5,3,4,4,5,4,5,5,6,3,4,4,5,4,5,5,6,4,5,5,6,5,6,6,7,2,3,3,4,3,4,4,5,3,4,4,5,4,5,5,6,3,4,4,5,4,5,5,6,4,5,5,6,5,6,6,7,3,4,4,5,4,5,5,6,4,5,5,6,5,6,6,7,4,5,5,6,5,6,6,7,5,6,6,7,6,7,7,8]⟩),t1] fun t2=>
 J0 .shr a0 (.int .u64 16) fun t3=>
 J0 .and t3 (.int .u32 255) fun t4=>
 wVf .sidx [(.string ⟨#[0,1,1,2,1,2,2,3,1,2,2,3,2,3,3,4,1,2,2,3,2,3,3,4,2,3,3,4,3,4,4,5,1,2,2,3,2,3,3,4,2,3,3,4,3,4,4,5,2,3,3,4,3,4,4,5,3,4,4,5,4,5,5,6,1,2,2,3,2,3,3,4,2,3,3,4,3,4,4,5,2,3,3,4,3,4,4,5,3,4,4,5,4,5,5,6,2,3,3,4,3,4,4,5,3,4,4,5,4,5,5,6,3,4,4,5,4,5,5,6,4,5,5,6,5,6,6,7,1,2,2,3,2,3,3,4,2,3,3,4,3,4,4,5,2,3,3,4,3,4,4,5,3,4,4,5,4,5,5,6,2,3,3,4,3,4,4,5,3,4,4,5,4,5,5,6,3,4,4,5,4,5,5,6,4,5,5,6,5,6,6,7,2,3,3,4,3,4,4,5,3,4,4,5,4,5,5,6,3,4,4,5,4,5,5,6,4,5,5,6,5,6,6,7,3,4,4,5,4,5,5,6,4,5,5,6,5,6,6,7,4,5,5,6,5,6,6,7,5,6,6,7,6,7,7,8]⟩),t4] fun t5=>
 J0 .add t2 t5 fun t6=>
 J0 .shr a0 (.int .u64 8) fun t7=>
 J0 .and t7 (.int .u32 255) fun t8=>
 wVf .sidx [(.string ⟨#[0,1,1,2,1,2,2,3,1,2,2,3,2,3,3,4,1,2,2,3,2,3,3,4,2,3,3,4,3,4,4,5,1,2,2,3,2,3,3,4,2,3,3,4,3,4,4,5,2,3,3,4,3,4,4,5,3,4,4,5,4,5,5,6,1,2,2,3,2,3,3,4,2,3,3,4,3,4,4,5,2,3,3,4,3,4,4,5,3,4,4,5,4,5,5,6,2,3,3,4,3,4,4,5,3,4,4,5,4,5,5,6,3,4,4,5,4,5,5,6,4,5,5,6,5,6,6,7,1,2,2,3,2,3,3,4,2,3,3,4,3,4,4,5,2,3,3,4,3,4,4,5,3,4,4,5,4,5,5,6,2,3,3,4,3,4,4,5,3,4,4,5,4,5,5,6,3,4,4,5,4,5,5,6,4,5,5,6,5,6,6,7,2,3,3,4,3,4,4,5,3,4,4,5,4,5,5,6,3,4,4,5,4,5,5,6,4,5,5,6,5,6,6,7,3,4,4,5,4,5,5,6,4,5,5,6,5,6,6,7,4,5,5,6,5,6,6,7,5,6,6,7,6,7,7,8]⟩),t8] fun t9=>
 J0 .add t6 t9 fun t10=>
 J0 .and a0 (.int .u32 255) fun t11=>
 wVf .sidx [(.string ⟨#[0,1,1,2,1,2,2,3,1,2,2,3,2,3,3,4,1,2,2,3,2,3,3,4,2,3,3,4,3,4,4,5,1,2,2,3,2,3,3,4,2,3,3,4,3,4,4,5,2,3,3,4,3,4,4,5,3,4,4,5,4,5,5,6,1,2,2,3,2,3,3,4,2,3,3,4,3,4,4,5,2,3,3,4,3,4,4,5,3,4,4,5,4,5,5,6,2,3,3,4,3,4,4,5,3,4,4,5,4,5,5,6,3,4,4,5,4,5,5,6,4,5,5,6,5,6,6,7,1,2,2,3,2,3,3,4,2,3,3,4,3,4,4,5,2,3,3,4,3,4,4,5,3,4,4,5,4,5,5,6,2,3,3,4,3,4,4,5,3,4,4,5,4,5,5,6,3,4,4,5,4,5,5,6,4,5,5,6,5,6,6,7,2,3,3,4,3,4,4,5,3,4,4,5,4,5,5,6,3,4,4,5,4,5,5,6,4,5,5,6,5,6,6,7,3,4,4,5,4,5,5,6,4,5,5,6,5,6,6,7,4,5,5,6,5,6,6,7,5,6,6,7,6,7,7,8]⟩),t11] fun t12=>
 J0 .add t10 t12 fun t13=>
 M3 .i64 t13 fun t14=>
 (((((M3 .i64 t13 fun t15=>t15=t14)/\True)/\True))/\(
 W1 t14 fun t16=>k t16 H nx1))\/False
theorem spec25 (h:F25 a0 H nx k):J2 Tryd.prog 25 [a0] H nx k:=
 K2 mixed Z2 21 5 d25 [(.s 2,none)] (by kernel_rfl) (by kernel_rfl) (by simp) (by kernel_rfl) h
noncomputable def d47:D:=Y5 Tryd.prog 47 [] [] []
noncomputable def F47 (a0:Value) (H:Y0) (nx:Nat) (k:EP):Prop:=
 J0 .shl (.int .u64 1) a0 fun t1=>
 J0 .sub t1 (.int .u64 1) fun t2=>
 M3 .u32 t2 fun t3=>
 W1 t3 fun t4=>k t4 H nx
theorem spec47 (h:F47 a0 H nx k):J2 Tryd.prog 47 [a0] H nx k:=
 K2 mixed Z2 7 3 d47 [(.s 2,none)] (by kernel_rfl) (by kernel_rfl) (by simp) (by kernel_rfl) h
noncomputable def d48:D:=Y5 Tryd.prog 48 [(2,[17])] [] [.one (.tst (.one (.tst (.one .nil) (.one .nil))) (.one (.one (.one .nil))))]
noncomputable def F48 (a0 a1:Value) (H:Y0) (nx:Nat) (k:EP):Prop:=
 R5 a0 fun t1=>D2 (.cells t1 0) .ptr H nx fun t2 H1 nx1=>
 B4 (fun t3=>
 G0 t2 (some 2) H1 fun t5=>
 Z1 Tryd.prog 42 [t5] H1 nx1 fun t6 H3 nx3=>
 J0 .neq t6 (.int .i64 0) fun t7=>
 J4 false t7 (
 J0 .lss a1 (.int .i64 0) fun t8=>
 J4 false t8 (
 D1 t2 0 fun t9=>
 G0 t9 none H3 fun t10=>
 J0 .geq a1 t10 fun t11=>
 t3 [t11] H3 nx3) (
 t3 [(.bool true)] H3 nx3)) (
 t3 [(.bool true)] H3 nx3)) (fun t4 H2 nx2=>
 G2 (t4.getD 0 undef) (
 W1 (.int .u32 0) fun t12=>k t12 H2 nx2) (
 G0 t2 (some 2) H2 fun t13=>
 Z1 Tryd.prog 46 [t13] H2 nx2 fun t14 H4 nx4=>
 W89 t14 a1 32 1 false fun t15=>
 W1 t15 fun t16=>k t16 H4 nx4))
theorem spec48 (h:F48 a0 a1 H nx k):J2 Tryd.prog 48 [a0,a1] H nx k:=
 K2 mixed Z2 22 5 d48 [(.s 4,none)] (by kernel_rfl) (by kernel_rfl) (by simp) (by kernel_rfl) h
noncomputable def d85:D:=Y5 Tryd.prog 85 [] [] []
noncomputable def F85 (a0 a1:Value) (H:Y0) (nx:Nat) (k:EP):Prop:=
 G0 a1 none H fun t1=>
 J0 .andNot t1 a0 fun t2=>
 J0 .eql t2 (.int .u32 0) fun t3=>
 W1 t3 fun t4=>k t4 H nx
theorem spec85 (h:F85 a0 a1 H nx k):J2 Tryd.prog 85 [a0,a1] H nx k:=
 K2 mixed Z2 8 4 d85 [(.s 3,none)] (by kernel_rfl) (by kernel_rfl) (by simp) (by kernel_rfl) h
noncomputable def d65:D:=Y5 Tryd.prog 65 [] [] []
noncomputable def F65 (a0 a1:Value) (H:Y0) (nx:Nat) (k:EP):Prop:=
 R5 a0 fun t1=>D2 (.cells t1 0) .ptr H nx fun t2 H1 nx1=>
 R5 a1 fun t3=>D2 (.cells t3 0) .ptr H1 nx1 fun t4 H2 nx2=>
 G0 t2 (some 2) H2 fun t5=>
 Z1 Tryd.prog 42 [t5] H2 nx2 fun t6 H3 nx3=>
 J0 .neq t6 (.int .i64 0) fun t7=>
 G2 t7 (
 W1 (.tuple ⟨[(.int .i64 0),(.bool false)]⟩) fun t8=>k t8 H3 nx3) (
 D1 t2 1 fun t9=>
 G0 t9 none H3 fun t10=>
 Z1 Tryd.prog 84 [t10,(.func (.func 85) ⟨[]⟩ ⟨[t4]⟩)] H3 nx3 fun t11 H4 nx4=>
 wVf (.mm true) [t11,(.int .i64 0)] fun t12=>
 J0 .geq t11 (.int .i64 0) fun t13=>
 W1 (.tuple ⟨[t12,t13]⟩) fun t14=>k t14 H4 nx4)
theorem spec65 (h:F65 a0 a1 H nx k):J2 Tryd.prog 65 [a0,a1] H nx k:=
 K2 mixed Z2 18 5 d65 [(.s 4,none),(.s 5,none)] (by kernel_rfl) (by kernel_rfl) (by simp) (by kernel_rfl) h
noncomputable def d22:D:=Y5 Tryd.prog 22 [] [] []
noncomputable def F22 (a0:Value) (H:Y0) (nx:Nat) (k:EP):Prop:=
 J0 .shl (.int .u64 1) a0 fun t1=>
 J0 .sub t1 (.int .u64 1) fun t2=>
 M3 .u32 t2 fun t3=>
 W1 t3 fun t4=>k t4 H nx
theorem spec22 (h:F22 a0 H nx k):J2 Tryd.prog 22 [a0] H nx k:=
 K2 mixed Z2 7 3 d22 [(.s 2,none)] (by kernel_rfl) (by kernel_rfl) (by simp) (by kernel_rfl) h
noncomputable def d42:D:=Y5 Tryd.prog 42 [(2,[12])] [[20]] [.one (.tst (.one .nil) (.one .nil))]
noncomputable def F42 (a0:Value) (H:Y0) (nx:Nat) (k:EP):Prop:=
 R5 a0 fun t1=>D2 (.cells t1 0) .ptr H nx fun t2 H1 nx1=>
 B4 (fun t3=>
 D1 t2 0 fun t5=>
 G0 t5 none H1 fun t6=>
 J0 .lss t6 (.int .i64 0) fun t7=>
 J4 false t7 (
 D1 t2 0 fun t8=>
 G0 t8 none H1 fun t9=>
 J0 .gtr t9 (.int .i64 32) fun t10=>
 t3 [t10] H1 nx1) (
 t3 [(.bool true)] H1 nx1)) (fun t4 H2 nx2=>
 G2 (t4.getD 0 undef) (
 W1 (.int .i64 3) fun t11=>k t11 H2 nx2) (
 D1 t2 1 fun t12=>
 G0 t12 none H2 fun t13=>
 X3 t13 0 H2 fun t14=>
 J0 .gtr t14 (.int .i64 64) fun t15=>
 G2 t15 (
 W1 (.int .i64 12) fun t16=>k t16 H2 nx2) (
 D1 t2 1 fun t17=>
 G0 t17 none H2 fun t18=>
 X3 t18 0 H2 fun t19=>
 B3 (fun t20 t21 H3 nx3=>
 J0 .lss (t21.getD 0 undef) t19 fun t22=>
 G2 t22 (
 W2 t18 (t21.getD 0 undef) none 1 fun t23=>
 G0 t23 none H3 fun t24=>
 D1 t2 0 fun t25=>
 G0 t25 none H3 fun t26=>
 Z1 Tryd.prog 47 [t26] H3 nx3 fun t27 H4 nx4=>
 J0 .andNot t24 t27 fun t28=>
 J0 .neq t28 (.int .u32 0) fun t29=>
 G2 t29 (
 W1 (.int .i64 1) fun t30=>k t30 H4 nx4) (
 J0 .add (t21.getD 0 undef) (.int .i64 1) fun t31=>
 t20 [t31] H4 nx4)) (
 W1 (.int .i64 0) fun t32=>k t32 H3 nx3)) [(.int .i64 0)] H2 nx2)))
theorem spec42 (h:F42 a0 H nx k):J2 Tryd.prog 42 [a0] H nx k:=
 K2 mixed Z2 31 5 d42 [(.s 2,none)] (by kernel_rfl) (by kernel_rfl) (by simp) (by kernel_rfl) h
noncomputable def d21:D:=Y5 Tryd.prog 21 [(6,[18])] [] [.one (.tst (.one .nil) (.one .nil))]
noncomputable def F21 (a0 a1:Value) (H:Y0) (nx:Nat) (k:EP):Prop:=
 R5 a0 fun t1=>D2 (.cells t1 0) .ptr H nx fun t2 H1 nx1=>
 G0 t2 (some 2) H1 fun t3=>
 Z1 Tryd.prog 42 [t3] H1 nx1 fun t4 H2 nx2=>
 J0 .neq t4 (.int .i64 0) fun t5=>
 G2 t5 (
 W1 t4 fun t6=>k t6 H2 nx2) (
 B4 (fun t7=>
 J0 .lss a1 (.int .i64 0) fun t9=>
 J4 false t9 (
 D1 t2 0 fun t10=>
 G0 t10 none H2 fun t11=>
 J0 .gtr a1 t11 fun t12=>
 t7 [t12] H2 nx2) (
 t7 [(.bool true)] H2 nx2)) (fun t8 H3 nx3=>
 G2 (t8.getD 0 undef) (
 W1 (.int .i64 3) fun t13=>k t13 H3 nx3) (
 W1 (.int .i64 0) fun t14=>k t14 H3 nx3)))
theorem spec21 (h:F21 a0 a1 H nx k):J2 Tryd.prog 21 [a0,a1] H nx k:=
 K2 mixed Z2 19 5 d21 [(.s 4,none)] (by kernel_rfl) (by kernel_rfl) (by simp) (by kernel_rfl) h
noncomputable def d26:D:=Y5 Tryd.prog 26 [] [[7]] []
noncomputable def F26 (a0:Value) (H:Y0) (nx:Nat) (k:EP):Prop:=
 R5 a0 fun t1=>D2 (.cells t1 0) .ptr H nx fun t2 H1 nx1=>
 D2 (.cells [.int .u32 0,.int .u32 0,.int .u32 0,.int .u32 0,.int .u32 0,.int .u32 0,.int .u32 0,.int .u32 0,.int .u32 0,.int .u32 0,.int .u32 0,.int .u32 0,.int .u32 0,.int .u32 0,.int .u32 0,.int .u32 0,.int .u32 0,.int .u32 0,.int .u32 0,.int .u32 0,.int .u32 0,.int .u32 0,.int .u32 0,.int .u32 0,.int .u32 0,.int .u32 0,.int .u32 0,.int .u32 0,.int .u32 0,.int .u32 0,.int .u32 0,.int .u32 0] 0) .ptr H1 nx1 fun t3 H2 nx2=>
 D2 (.cells [.int .u32 0,.int .u32 0,.int .u32 0,.int .u32 0,.int .u32 0,.int .u32 0,.int .u32 0,.int .u32 0,.int .u32 0,.int .u32 0,.int .u32 0,.int .u32 0,.int .u32 0,.int .u32 0,.int .u32 0,.int .u32 0,.int .u32 0,.int .u32 0,.int .u32 0,.int .u32 0,.int .u32 0,.int .u32 0,.int .u32 0,.int .u32 0,.int .u32 0,.int .u32 0,.int .u32 0,.int .u32 0,.int .u32 0,.int .u32 0,.int .u32 0,.int .u32 0] 0) .ptr H2 nx2 fun t4 H3 nx3=>
 D1 t2 0 fun t5=>
 G0 t5 none H3 fun t6=>
 B3 (fun t7 t8 H4 nx4=>
 J0 .lss (t8.getD 0 undef) t6 fun t9=>
 G2 t9 (
 G0 t2 (some 2) H4 fun t10=>
 Z1 Tryd.prog 48 [t10,(t8.getD 0 undef)] H4 nx4 fun t11 H5 nx5=>
 W2 t4 (t8.getD 0 undef) (some 32) 1 fun t12=>
 W3 t12 t11 1 H5 fun H6=>
 J0 .add (t8.getD 0 undef) (.int .i64 1) fun t13=>
 t7 [t13] H6 nx5) (
 G0 t4 (some 32) H4 fun t14=>
 W3 t3 t14 32 H4 fun H7=>
 G0 t3 (some 32) H7 fun t15=>
 W1 t15 fun t16=>k t16 H7 nx4)) [(.int .i64 0)] H3 nx3
theorem spec26 (h:F26 a0 H nx k):J2 Tryd.prog 26 [a0] H nx k:=
 K2 mixed Z2 17 5 d26 [(.s 2,some (some 32))] (by kernel_rfl) (by kernel_rfl) (by simp) (by kernel_rfl) h
noncomputable def d17:D:=Y5 Tryd.prog 17 [(13,[49]),(46,[]),(50,[]),(51,[131])] [[9,30],[66],[81],[97],[110]] [.one (.tst (.one (.tst (.one .nil) (.one .nil))) (.one (.one (.one .nil)))),.one (.tst (.one .nil) (.one .nil))]
noncomputable def F17 (a0 a1 a2:Value) (H:Y0) (nx:Nat) (k:EP):Prop:=
 R5 a0 fun t1=>D2 (.cells t1 0) .ptr H nx fun t2 H1 nx1=>
 G0 t2 (some 2) H1 fun t3=>
 Z1 Tryd.prog 21 [t3,a1] H1 nx1 fun t4 H2 nx2=>
 J0 .neq t4 (.int .i64 0) fun t5=>
 G2 t5 (
 W1 (.tuple ⟨[(.slice none 0 0),t4]⟩) fun t6=>k t6 H2 nx2) (
 X3 a2 0 H2 fun t7=>
 B3 (fun t8 t9 H3 nx3=>
 J0 .lss (t9.getD 1 undef) t7 fun t10=>
 G2 t10 (
 W2 a2 (t9.getD 1 undef) none 1 fun t11=>
 G0 t11 none H3 fun t12=>
 B4 (fun t13=>
 J0 .lss t12 a1 fun t15=>
 J4 false t15 (
 D1 t2 0 fun t16=>
 G0 t16 none H3 fun t17=>
 J0 .geq t12 t17 fun t18=>
 J4 false t18 (
 J0 .shr (t9.getD 0 undef) t12 fun t19=>
 J0 .and t19 (.int .u32 1) fun t20=>
 J0 .eql t20 (.int .u32 1) fun t21=>
 t13 [t21] H3 nx3) (
 t13 [(.bool true)] H3 nx3)) (
 t13 [(.bool true)] H3 nx3)) (fun t14 H4 nx4=>
 G2 (t14.getD 0 undef) (
 W1 (.tuple ⟨[(.slice none 0 0),(.int .i64 1)]⟩) fun t22=>k t22 H4 nx4) (
 J0 .shl (.int .u32 1) t12 fun t23=>
 J0 .or (t9.getD 0 undef) t23 fun t24=>
 J0 .add (t9.getD 1 undef) (.int .i64 1) fun t25=>
 t8 [t24,t25] H4 nx4))) (
 X3 a2 0 H3 fun t26=>
 D1 t2 0 fun t27=>
 G0 t27 none H3 fun t28=>
 J0 .sub t28 a1 fun t29=>
 J0 .neq t26 t29 fun t30=>
 G2 t30 (
 W1 (.tuple ⟨[(.slice none 0 0),(.int .i64 1)]⟩) fun t31=>k t31 H3 nx3) (
 D2 (.cells [.int .i64 0,.int .i64 0,.int .i64 0,.int .i64 0,.int .i64 0,.int .i64 0,.int .i64 0,.int .i64 0,.int .i64 0,.int .i64 0,.int .i64 0,.int .i64 0,.int .i64 0,.int .i64 0,.int .i64 0,.int .i64 0,.int .i64 0,.int .i64 0,.int .i64 0,.int .i64 0,.int .i64 0,.int .i64 0,.int .i64 0,.int .i64 0,.int .i64 0,.int .i64 0,.int .i64 0,.int .i64 0,.int .i64 0,.int .i64 0,.int .i64 0,.int .i64 0] 0) .ptr H3 nx3 fun t32 H5 nx5=>
 D2 (.cells [.int .i64 0,.int .i64 0,.int .i64 0,.int .i64 0,.int .i64 0,.int .i64 0,.int .i64 0,.int .i64 0,.int .i64 0,.int .i64 0,.int .i64 0,.int .i64 0,.int .i64 0,.int .i64 0,.int .i64 0,.int .i64 0,.int .i64 0,.int .i64 0,.int .i64 0,.int .i64 0,.int .i64 0,.int .i64 0,.int .i64 0,.int .i64 0,.int .i64 0,.int .i64 0,.int .i64 0,.int .i64 0,.int .i64 0,.int .i64 0,.int .i64 0,.int .i64 0] 0) .ptr H5 nx5 fun t33 H6 nx6=>
 C87 t32 32 1 none none none fun t34=>
 Z39 t34 a2 1 H6 nx6 fun t35 H7 nx7=>
 B3 (fun t36 t37 H8 nx8=>
 J0 .lss (t37.getD 0 undef) a1 fun t38=>
 G2 t38 (
 X3 a2 0 H8 fun t39=>
 J0 .add t39 (t37.getD 0 undef) fun t40=>
 J0 .sub a1 (.int .i64 1) fun t41=>
 J0 .sub t41 (t37.getD 0 undef) fun t42=>
 W2 t32 t40 (some 32) 1 fun t43=>
 W3 t43 t42 1 H8 fun H9=>
 J0 .add (t37.getD 0 undef) (.int .i64 1) fun t44=>
 t36 [t44] H9 nx8) (
 D1 t2 0 fun t45=>
 G0 t45 none H8 fun t46=>
 B3 (fun t47 t48 H10 nx10=>
 J0 .lss (t48.getD 0 undef) t46 fun t49=>
 G2 t49 (
 W2 t32 (t48.getD 0 undef) (some 32) 1 fun t50=>
 G0 t50 none H10 fun t51=>
 W2 t33 t51 (some 32) 1 fun t52=>
 W3 t52 (t48.getD 0 undef) 1 H10 fun H11=>
 J0 .add (t48.getD 0 undef) (.int .i64 1) fun t53=>
 t47 [t53] H11 nx10) (
 G0 t2 (some 2) H10 fun t54=>
 Z1 Tryd.prog 26 [t54] H10 nx10 fun t55 H12 nx12=>
 D2 (.cells [.int .u32 0,.int .u32 0,.int .u32 0,.int .u32 0,.int .u32 0,.int .u32 0,.int .u32 0,.int .u32 0,.int .u32 0,.int .u32 0,.int .u32 0,.int .u32 0,.int .u32 0,.int .u32 0,.int .u32 0,.int .u32 0,.int .u32 0,.int .u32 0,.int .u32 0,.int .u32 0,.int .u32 0,.int .u32 0,.int .u32 0,.int .u32 0,.int .u32 0,.int .u32 0,.int .u32 0,.int .u32 0,.int .u32 0,.int .u32 0,.int .u32 0,.int .u32 0] 0) .ptr H12 nx12 fun t56 H13 nx13=>
 W3 t56 t55 32 H13 fun H14=>
 D1 t2 0 fun t57=>
 G0 t57 none H14 fun t58=>
 K21 t58 t58 [.int .i64 0,.int .u32 0,.int .i64 0] fun t59 t61 t62=>D2 (.cells t59 0) (.slice t61 t62) H14 nx13 fun t60 H15 nx15=>
 D1 t2 0 fun t63=>
 G0 t63 none H15 fun t64=>
 B3 (fun t65 t66 H16 nx16=>
 J0 .lss (t66.getD 0 undef) t64 fun t67=>
 G2 t67 (
 W2 t32 (t66.getD 0 undef) (some 32) 1 fun t68=>
 G0 t68 none H16 fun t69=>
 W2 t56 t69 (some 32) 1 fun t70=>
 G0 t70 none H16 fun t71=>
 M4 [.int .i64 0,.int .u32 0,.int .i64 0] [(0,1),(1,1),(2,1)] [(0,t69),(1,t71),(2,(.int .i64 (-1)))] fun t72=>
 D2 (.cells [.int .i64 0,.int .u32 0,.int .i64 0] 0) .ptr H16 nx16 fun t73 H17 nx17=>
 W3 t73 t72 3 H17 fun H18=>
 D1 t2 0 fun t74=>
 G0 t74 none H18 fun t75=>
 B3 (fun t76 t77 H19 nx19=>
 J0 .lss (t77.getD 0 undef) t75 fun t78=>
 G2 t78 (
 B4 (fun t79=>
 D1 t73 1 fun t81=>
 G0 t81 none H19 fun t82=>
 J0 .shr t82 (t77.getD 0 undef) fun t83=>
 J0 .and t83 (.int .u32 1) fun t84=>
 J0 .eql t84 (.int .u32 0) fun t85=>
 G2 t85 (
 t79 [] H19 nx19) (
 B4 (fun t86=>
 B4 (fun t88=>
 E2 (nx19+13) fun nx23=>
 D1 t73 2 fun t90=>
 G0 t90 none H19 fun t91=>
 J0 .lss t91 (.int .i64 0) fun t92=>
 J4 false t92 (
 W2 t33 (t77.getD 0 undef) (some 32) 1 fun t93=>
 G0 t93 none H19 fun t94=>
 D1 t73 2 fun t95=>
 G0 t95 none H19 fun t96=>
 W2 t33 t96 (some 32) 1 fun t97=>
 G0 t97 none H19 fun t98=>
 J0 .lss t94 t98 fun t99=>
 (((((G0 t97 none H19 fun t103=>t103=t98)/\True)/\(((G0 t95 none H19 fun t102=>t102=t96)/\True)/\(((G0 t93 none H19 fun t101=>t101=t94)/\True)/\(((G0 t90 none H19 fun t100=>t100=t91)/\True)/\True)))))/\(
 t88 [t99] H19 nx23))\/False) (
 (((((G0 t90 none H19 fun t104=>t104=t91)/\True)/\True))/\(
 t88 [(.bool true)] H19 nx23))\/False)) (fun t89 H22 nx22=>
 G2 (t89.getD 0 undef) (
 D1 t73 2 fun t105=>
 W3 t105 (t77.getD 0 undef) 1 H22 fun H24=>
 t86 [] H24 nx22) (
 t86 [] H22 nx22))) (fun t87 H21 nx21=>
 E2 (nx21+15) fun nx25=>
 W2 t56 (t77.getD 0 undef) (some 32) 1 fun t106=>
 G0 t106 none H21 fun t107=>
 D1 t73 1 fun t108=>
 G0 t108 none H21 fun t109=>
 J0 .or t107 t109 fun t110=>
 J0 .shl (.int .u32 1) (t77.getD 0 undef) fun t111=>
 J0 .shl (.int .u32 1) t69 fun t112=>
 J0 .or t111 t112 fun t113=>
 J0 .andNot t110 t113 fun t114=>
 W2 t56 (t77.getD 0 undef) (some 32) 1 fun t115=>
 W3 t115 t114 1 H21 fun H26=>
 (((((True)/\((G0 t108 none H21 fun t117=>t117=t109)/\True))/\(((True)/\((G0 t106 none H21 fun t116=>t116=t107)/\True))/\True)))/\(
 t79 [] H26 nx25))\/False))) (fun t80 H20 nx20=>
 J0 .add (t77.getD 0 undef) (.int .i64 1) fun t118=>
 t76 [t118] H20 nx20)) (
 G0 t73 (some 3) H19 fun t119=>
 W2 t60 t69 none 3 fun t120=>
 W3 t120 t119 3 H19 fun H27=>
 J0 .add (t66.getD 0 undef) (.int .i64 1) fun t121=>
 t65 [t121] H27 nx19)) [(.int .i64 0)] H18 nx17) (
 W1 (.tuple ⟨[t60,(.int .i64 0)]⟩) fun t122=>k t122 H16 nx16)) [(.int .i64 0)] H15 nx15)) [(.int .i64 0)] H8 nx8)) [(.int .i64 0)] H7 nx7))) [(.int .u32 0),(.int .i64 0)] H2 nx2)
theorem spec17 (h:F17 a0 a1 a2 H nx k):J2 Tryd.prog 17 [a0,a1,a2] H nx k:=
 K2 mixed Z2 155 8 d17 [(.s 6,none),(.s 7,none)] (by kernel_rfl) (by kernel_rfl) (by simp) (by kernel_rfl) h
noncomputable def d44:D:=Y5 Tryd.prog 44 [(2,[10])] [] [.one (.tst (.one .nil) (.one .nil))]
noncomputable def F44 (a0:Value) (H:Y0) (nx:Nat) (k:EP):Prop:=
 R5 a0 fun t1=>D2 (.cells t1 0) .ptr H nx fun t2 H1 nx1=>
 B4 (fun t3=>
 D1 t2 0 fun t5=>
 G0 t5 none H1 fun t6=>
 J0 .lss t6 (.int .i64 0) fun t7=>
 J4 false t7 (
 D1 t2 0 fun t8=>
 G0 t8 none H1 fun t9=>
 J0 .geq t9 (.int .i64 32) fun t10=>
 t3 [t10] H1 nx1) (
 t3 [(.bool true)] H1 nx1)) (fun t4 H2 nx2=>
 G2 (t4.getD 0 undef) (
 D1 t2 1 fun t11=>
 G0 t11 none H2 fun t12=>
 W1 t12 fun t13=>k t13 H2 nx2) (
 E2 (nx2+7) fun nx3=>
 D1 t2 1 fun t14=>
 G0 t14 none H2 fun t15=>
 D1 t2 0 fun t16=>
 G0 t16 none H2 fun t17=>
 J0 .shl (.int .u32 1) t17 fun t18=>
 J0 .or t15 t18 fun t19=>
 (((((G0 t16 none H2 fun t21=>t21=t17)/\True)/\(((G0 t14 none H2 fun t20=>t20=t15)/\True)/\True)))/\(
 W1 t19 fun t22=>k t22 H2 nx3))\/False))
theorem spec44 (h:F44 a0 H nx k):J2 Tryd.prog 44 [a0] H nx k:=
 K2 mixed Z2 19 5 d44 [(.s 2,none)] (by kernel_rfl) (by kernel_rfl) (by simp) (by kernel_rfl) h
noncomputable def d28:D:=Y5 Tryd.prog 28 [] [] []
noncomputable def F28 (a0 a1:Value) (H:Y0) (nx:Nat) (k:EP):Prop:=
 R5 a0 fun t1=>D2 (.cells t1 0) .ptr H nx fun t2 H1 nx1=>
 R5 a1 fun t3=>D2 (.cells t3 0) .ptr H1 nx1 fun t4 H2 nx2=>
 D2 (.cells [.bool false,.slice none 0 0,.slice none 0 0] 0) .ptr H2 nx2 fun t5 H3 nx3=>
 G0 t2 (some 3) H3 fun t6=>
 G0 t4 (some 3) H3 fun t7=>
 Z1 Tryd.prog 9 [t6,t7] H3 nx3 fun t8 H4 nx4=>
 J0 .lss t8 (.int .i64 0) fun t9=>
 G2 t9 (
 G0 t4 (some 3) H4 fun t10=>
 Z1 Tryd.prog 36 [t10] H4 nx4 fun t11 H5 nx5=>
 W3 t5 t11 3 H5 fun H6=>
 G0 t5 (some 3) H6 fun t12=>
 W1 t12 fun t13=>k t13 H6 nx5) (
 G0 t2 (some 3) H4 fun t14=>
 Z1 Tryd.prog 36 [t14] H4 nx4 fun t15 H7 nx7=>
 W3 t5 t15 3 H7 fun H8=>
 G0 t5 (some 3) H8 fun t16=>
 W1 t16 fun t17=>k t17 H8 nx7)
theorem spec28 (h:F28 a0 a1 H nx k):J2 Tryd.prog 28 [a0,a1] H nx k:=
 K2 mixed Z2 13 4 d28 [(.s 4,some (some 3))] (by kernel_rfl) (by kernel_rfl) (by simp) (by kernel_rfl) h
noncomputable def d49:D:=Y5 Tryd.prog 49 [(6,[])] [] []
noncomputable def F49 (a0 a1:Value) (H:Y0) (nx:Nat) (k:EP):Prop:=
 D2 (.cells [.bool false,.slice none 0 0,.slice none 0 0] 0) .ptr H nx fun t1 H1 nx1=>
 D4 a0 fun t2=>
 D1 t2 0 fun t3=>
 G0 t3 (some 2) H1 fun t4=>
 Z1 Tryd.prog 65 [t4,a1] H1 nx1 fun t5 H2 nx2=>
 J5 t5 0 fun t6=>
 J5 t5 1 fun t7=>
 G2 t7 (
 Z1 Tryd.prog 10 [(.int .i64 1)] H2 nx2 fun t8 H3 nx3=>
 W3 t1 t8 3 H3 fun H4=>
 G0 t1 (some 3) H4 fun t9=>
 W1 t9 fun t10=>k t10 H4 nx3) (
 D4 a0 fun t11=>
 D1 t11 34 fun t12=>
 G0 t12 none H2 fun t13=>
 wLk (.int .u32) (.agg ⟨[.bool false,.slice none 0 0,.slice none 0 0]⟩) t13 a1 true H2 fun t14=>
 J5 t14 0 fun t15=>
 J5 t14 1 fun t16=>
 D2 (.cells [.bool false,.slice none 0 0,.slice none 0 0] 0) .ptr H2 nx2 fun t17 H5 nx5=>
 W3 t17 t15 3 H5 fun H6=>
 B4 (fun t18=>
 wUn .not t16 fun t20=>
 G2 t20 (
 D4 a0 fun t21=>
 D1 t21 0 fun t22=>
 G0 t22 (some 2) H6 fun t23=>
 Z1 Tryd.prog 43 [t23,a1] H6 nx5 fun t24 H8 nx8=>
 J5 t24 0 fun t25=>
 J5 t24 1 fun t26=>
 D2 (.cells [.slice none 0 0,.slice none 0 0,.bool false,.slice none 0 0,.slice none 0 0] 0) .ptr H8 nx8 fun t27 H9 nx9=>
 W3 t27 t25 5 H9 fun H10=>
 D1 t27 2 fun t28=>
 G0 t28 (some 3) H10 fun t29=>
 W3 t17 t29 3 H10 fun H11=>
 E2 (nx9+7) fun nx12=>
 D4 a0 fun t30=>
 D1 t30 34 fun t31=>
 G0 t31 none H11 fun t32=>
 G0 t17 (some 3) H11 fun t33=>
 K54 (.int .u32) t32 a1 t33 H11 nx12 fun t34 H13 nx13=>
 (((((True)/\((G0 t17 (some 3) H11 fun t36=>t36=t33)/\True))/\(((True)/\((G0 t31 none H11 fun t35=>t35=t32)/\True))/\True)))/\(
 t18 [] H13 nx13))\/False) (
 t18 [] H6 nx5)) (fun t19 H7 nx7=>
 G0 t17 (some 3) H7 fun t37=>
 W3 t1 t37 3 H7 fun H14=>
 G0 t1 (some 3) H14 fun t38=>
 W1 t38 fun t39=>k t39 H14 nx7))
theorem spec49 (h:F49 a0 a1 H nx k):J2 Tryd.prog 49 [a0,a1] H nx k:=
 K2 mixed Z2 51 6 d49 [(.s 4,some (some 3))] (by kernel_rfl) (by kernel_rfl) (by simp) (by kernel_rfl) h
noncomputable def d27:D:=Y5 Tryd.prog 27 [] [[5,6],[41]] []
noncomputable def F27 (a0 a1:Value) (H:Y0) (nx:Nat) (k:EP):Prop:=
 D2 (.cells [.bool false,.slice none 0 0,.slice none 0 0] 0) .ptr H nx fun t1 H1 nx1=>
 B3 (fun t2 t3 H2 nx2=>
 D4 a0 fun t4=>
 D1 t4 0 fun t5=>
 D1 t5 0 fun t6=>
 G0 t6 none H2 fun t7=>
 J0 .lss (t3.getD 1 undef) t7 fun t8=>
 G2 t8 (
 G7 1 1 [.int .i64 0] [(0,(t3.getD 1 undef))] fun t9=>D2 (.cells t9 0) (.slice 1 1) H2 nx2 fun t10 H3 nx3=>
 U7 (t3.getD 0 undef) t10 1 8 H3 nx3 fun t11 H4 nx4=>
 J0 .add (t3.getD 1 undef) (.int .i64 1) fun t12=>
 t2 [t11,t12] H4 nx4) (
 Z1 Tryd.prog 10 [(.int .i64 0)] H2 nx2 fun t13 H5 nx5=>
 D2 (.cells [.bool false,.slice none 0 0,.slice none 0 0] 0) .ptr H5 nx5 fun t14 H6 nx6=>
 W3 t14 t13 3 H6 fun H7=>
 D4 a0 fun t15=>
 D1 t15 0 fun t16=>
 G0 t16 (some 2) H7 fun t17=>
 Z1 Tryd.prog 17 [t17,a1,(t3.getD 0 undef)] H7 nx6 fun t18 H8 nx8=>
 J5 t18 0 fun t19=>
 J5 t18 1 fun t20=>
 wSl t19 3 none (some a1) none H8 fun t21=>
 X3 t21 0 H8 fun t22=>
 B3 (fun t23 t24 H9 nx9=>
 J0 .lss (t24.getD 0 undef) t22 fun t25=>
 G2 t25 (
 W2 t21 (t24.getD 0 undef) none 3 fun t26=>
 G0 t26 (some 3) H9 fun t27=>
 D2 (.cells [.int .i64 0,.int .u32 0,.int .i64 0] 0) .ptr H9 nx9 fun t28 H10 nx10=>
 W3 t28 t27 3 H10 fun H11=>
 E2 (nx10+7) fun nx12=>
 G0 t14 (some 3) H11 fun t29=>
 G0 t28 (some 3) H11 fun t30=>
 Z1 Tryd.prog 44 [t30] H11 nx12 fun t31 H13 nx13=>
 Z1 Tryd.prog 49 [a0,t31] H13 nx13 fun t32 H14 nx14=>
 Z1 Tryd.prog 28 [t29,t32] H14 nx14 fun t33 H15 nx15=>
 W3 t14 t33 3 H15 fun H16=>
 (((((True)/\((True)/\((True)/\((True)/\((G0 t28 (some 3) H11 fun t37=>t37=t30)/\True)))))/\(((True)/\((True)/\((G0 t14 (some 3) H14 fun t34=>t34=t29)/\((G0 t14 (some 3) H13 fun t35=>t35=t29)/\((G0 t14 (some 3) H11 fun t36=>t36=t29)/\True)))))/\True)))/\(
 J0 .add (t24.getD 0 undef) (.int .i64 1) fun t38=>
 t23 [t38] H16 nx15))\/False) (
 G0 t14 (some 3) H9 fun t39=>
 W3 t1 t39 3 H9 fun H17=>
 G0 t1 (some 3) H17 fun t40=>
 W1 t40 fun t41=>k t41 H17 nx9)) [(.int .i64 0)] H8 nx8)) [(.slice none 0 0),a1] H1 nx1
theorem spec27 (h:F27 a0 a1 H nx k):J2 Tryd.prog 27 [a0,a1] H nx k:=
 K2 mixed Z2 53 6 d27 [(.s 4,some (some 3))] (by kernel_rfl) (by kernel_rfl) (by simp) (by kernel_rfl) h
noncomputable def d50:D:=Y5 Tryd.prog 50 [(9,[39])] [[10,11]] [.one (.tst (.one .nil) (.one .nil))]
noncomputable def F50 (a0 a1 a2 a3:Value) (H:Y0) (nx:Nat) (k:EP):Prop:=
 J0 .andNot a2 a3 fun t1=>
 E2 (nx+4) fun nx1=>
 J0 .shl (.int .u32 1) a1 fun t2=>
 ((True)/\(
 B3 (fun t3 t4 H2 nx2=>
 J0 .neq (t4.getD 1 undef) (.int .u32 0) fun t5=>
 G2 t5 (
 Z1 Tryd.prog 66 [(t4.getD 1 undef)] H2 nx2 fun t6 H3 nx3=>
 J0 .shl (.int .u32 1) t6 fun t7=>
 J0 .andNot (t4.getD 1 undef) t7 fun t8=>
 J0 .shl (.int .u32 1) t6 fun t9=>
 J0 .or (t4.getD 0 undef) t9 fun t10=>
 B4 (fun t11=>
 J0 .eql t6 a1 fun t13=>
 J4 false t13 (
 J0 .shr t1 t6 fun t14=>
 J0 .and t14 (.int .u32 1) fun t15=>
 J0 .eql t15 (.int .u32 1) fun t16=>
 t11 [t16] H3 nx3) (
 t11 [(.bool true)] H3 nx3)) (fun t12 H4 nx4=>
 G2 (t12.getD 0 undef) (
 D4 a0 fun t17=>
 D1 t17 2 fun t18=>
 W2 t18 t6 (some 32) 1 fun t19=>
 G0 t19 none H4 fun t20=>
 J0 .andNot t20 t10 fun t21=>
 J0 .or t8 t21 fun t22=>
 t3 [t10,t22] H4 nx4) (
 t3 [t10,t8] H4 nx4))) (
 J0 .andNot (t4.getD 0 undef) t1 fun t23=>
 W1 t23 fun t24=>k t24 H2 nx2)) [(.int .u32 0),t2] H nx1))\/False
theorem spec50 (h:F50 a0 a1 a2 a3 H nx k):J2 Tryd.prog 50 [a0,a1,a2,a3] H nx k:=
 K2 mixed Z2 53 6 d50 [(.s 8,none)] (by kernel_rfl) (by kernel_rfl) (by simp) (by kernel_rfl) h
noncomputable def d29:D:=Y5 Tryd.prog 29 [(14,[10]),(20,[53]),(22,[70])] [[10,32]] [.one (.tst (.one .nil) (.one .nil)),.one (.tst (.one .nil) (.one .nil))]
noncomputable def F29 (a0 a1 a2:Value) (H:Y0) (nx:Nat) (k:EP):Prop:=
 D2 (.cells [.bool false,.slice none 0 0,.slice none 0 0] 0) .ptr H nx fun t1 H1 nx1=>
 J0 .eql a2 (.int .u32 0) fun t2=>
 G2 t2 (
 Z1 Tryd.prog 10 [(.int .i64 0)] H1 nx1 fun t3 H2 nx2=>
 W3 t1 t3 3 H2 fun H3=>
 G0 t1 (some 3) H3 fun t4=>
 W1 t4 fun t5=>k t5 H3 nx2) (
 D4 a0 fun t6=>
 D1 t6 35 fun t7=>
 G0 t7 none H1 fun t8=>
 wLk (.int .u32) (.agg ⟨[.bool false,.slice none 0 0,.slice none 0 0]⟩) t8 a2 true H1 fun t9=>
 J5 t9 0 fun t10=>
 J5 t9 1 fun t11=>
 D2 (.cells [.bool false,.slice none 0 0,.slice none 0 0] 0) .ptr H1 nx1 fun t12 H4 nx4=>
 W3 t12 t10 3 H4 fun H5=>
 G2 t11 (
 G0 t12 (some 3) H5 fun t13=>
 W3 t1 t13 3 H5 fun H6=>
 G0 t1 (some 3) H6 fun t14=>
 W1 t14 fun t15=>k t15 H6 nx4) (
 D2 (.cells [.bool false,.slice none 0 0,.slice none 0 0] 0) .ptr H5 nx4 fun t16 H7 nx7=>
 D4 a0 fun t17=>
 D1 t17 0 fun t18=>
 D1 t18 0 fun t19=>
 G0 t19 none H7 fun t20=>
 B3 (fun t21 t22 H8 nx8=>
 J0 .lss (t22.getD 1 undef) t20 fun t23=>
 G2 t23 (
 B4 (fun t24=>
 J0 .shr a2 (t22.getD 1 undef) fun t26=>
 J0 .and t26 (.int .u32 1) fun t27=>
 J0 .eql t27 (.int .u32 0) fun t28=>
 G2 t28 (
 t24 [(t22.getD 0 undef)] H8 nx8) (
 J0 .shl (.int .u32 1) (t22.getD 1 undef) fun t29=>
 J0 .andNot a2 t29 fun t30=>
 Z1 Tryd.prog 29 [a0,a1,t30] H8 nx8 fun t31 H10 nx10=>
 D2 (.cells [.bool false,.slice none 0 0,.slice none 0 0] 0) .ptr H10 nx10 fun t32 H11 nx11=>
 W3 t32 t31 3 H11 fun H12=>
 B4 (fun t33=>
 J4 true (t22.getD 0 undef) (
 G0 t32 (some 3) H12 fun t35=>
 G0 t16 (some 3) H12 fun t36=>
 Z1 Tryd.prog 9 [t35,t36] H12 nx11 fun t37 H14 nx14=>
 J0 .geq t37 (.int .i64 0) fun t38=>
 t33 [t38] H14 nx14) (
 t33 [(.bool false)] H12 nx11)) (fun t34 H13 nx13=>
 G2 (t34.getD 0 undef) (
 t24 [(t22.getD 0 undef)] H13 nx13) (
 E2 (nx13+10) fun nx15=>
 G0 t32 (some 3) H13 fun t39=>
 Z1 Tryd.prog 50 [a0,(t22.getD 1 undef),a1,a2] H13 nx15 fun t40 H16 nx16=>
 Z1 Tryd.prog 49 [a0,t40] H16 nx16 fun t41 H17 nx17=>
 Z1 Tryd.prog 28 [t39,t41] H17 nx17 fun t42 H18 nx18=>
 W3 t32 t42 3 H18 fun H19=>
 (((((True)/\((True)/\((G0 t32 (some 3) H17 fun t43=>t43=t39)/\((G0 t32 (some 3) H16 fun t44=>t44=t39)/\((G0 t32 (some 3) H13 fun t45=>t45=t39)/\True)))))/\True))/\(
 B4 (fun t46=>
 wUn .not (t22.getD 0 undef) fun t48=>
 J4 false t48 (
 G0 t32 (some 3) H19 fun t49=>
 G0 t16 (some 3) H19 fun t50=>
 Z1 Tryd.prog 9 [t49,t50] H19 nx18 fun t51 H21 nx21=>
 J0 .lss t51 (.int .i64 0) fun t52=>
 t46 [t52] H21 nx21) (
 t46 [(.bool true)] H19 nx18)) (fun t47 H20 nx20=>
 G2 (t47.getD 0 undef) (
 G0 t32 (some 3) H20 fun t53=>
 W3 t16 t53 3 H20 fun H22=>
 t24 [(.bool true)] H22 nx20) (
 t24 [(t22.getD 0 undef)] H20 nx20))))\/False)))) (fun t25 H9 nx9=>
 J0 .add (t22.getD 1 undef) (.int .i64 1) fun t54=>
 t21 [(t25.getD 0 undef),t54] H9 nx9)) (
 E2 (nx8+7) fun nx23=>
 D4 a0 fun t55=>
 D1 t55 35 fun t56=>
 G0 t56 none H8 fun t57=>
 G0 t16 (some 3) H8 fun t58=>
 K54 (.int .u32) t57 a2 t58 H8 nx23 fun t59 H24 nx24=>
 (((((True)/\((G0 t16 (some 3) H8 fun t61=>t61=t58)/\True))/\(((True)/\((G0 t56 none H8 fun t60=>t60=t57)/\True))/\True)))/\(
 G0 t16 (some 3) H24 fun t62=>
 W3 t1 t62 3 H24 fun H25=>
 G0 t1 (some 3) H25 fun t63=>
 W1 t63 fun t64=>k t64 H25 nx24))\/False)) [(.bool false),(.int .i64 0)] H7 nx7))
theorem spec29 (h:F29 a0 a1 a2 H nx k):J2 Tryd.prog 29 [a0,a1,a2] H nx k:=
 K2 mixed Z2 80 7 d29 [(.s 6,some (some 3))] (by kernel_rfl) (by kernel_rfl) (by simp) (by kernel_rfl) h
noncomputable def d51:D:=Y5 Tryd.prog 51 [] [] [.one (.tst (.one (.tst (.one .nil) (.one .nil))) (.one (.one (.one .nil))))]
noncomputable def F51 (a0 a1 a2 a3 a4 a5:Value) (H:Y0) (nx:Nat) (k:EP):Prop:=
 E2 (nx+45) fun nx1=>
 G0 a2 none H fun t1=>
 W2 t1 a0 none 1 fun t2=>
 G0 t2 none H fun t3=>
 J0 .shr t3 a1 fun t4=>
 J0 .and t4 (.int .u32 1) fun t5=>
 J0 .eql t5 (.int .u32 1) fun t6=>
 J4 true t6 (
 G0 a3 none H fun t7=>
 G0 a3 none H fun t8=>
 G0 a4 none H fun t9=>
 W2 t9 a0 none 1 fun t10=>
 G0 t10 none H fun t11=>
 G0 a2 none H fun t12=>
 W2 t12 a0 none 1 fun t13=>
 G0 t13 none H fun t14=>
 Z1 Tryd.prog 50 [t8,a1,t11,t14] H nx1 fun t15 H2 nx2=>
 Z1 Tryd.prog 49 [t7,t15] H2 nx2 fun t16 H3 nx3=>
 G0 a5 (some 3) H3 fun t17=>
 Z1 Tryd.prog 9 [t16,t17] H3 nx3 fun t18 H4 nx4=>
 J0 .leq t18 (.int .i64 0) fun t19=>
 J4 true t19 (
 G0 a3 none H4 fun t20=>
 G0 a4 none H4 fun t21=>
 W2 t21 a0 none 1 fun t22=>
 G0 t22 none H4 fun t23=>
 G0 a2 none H4 fun t24=>
 W2 t24 a0 none 1 fun t25=>
 G0 t25 none H4 fun t26=>
 J0 .shl (.int .u32 1) a1 fun t27=>
 J0 .andNot t26 t27 fun t28=>
 Z1 Tryd.prog 29 [t20,t23,t28] H4 nx4 fun t29 H5 nx5=>
 G0 a5 (some 3) H5 fun t30=>
 Z1 Tryd.prog 9 [t29,t30] H5 nx5 fun t31 H6 nx6=>
 J0 .leq t31 (.int .i64 0) fun t32=>
 (((((True)/\((G0 a5 (some 3) H5 fun t50=>t50=t30)/\((G0 a5 (some 3) H4 fun t51=>t51=t30)/\True)))/\(((True)/\((True)/\((G0 t25 none H4 fun t49=>t49=t26)/\True)))/\(((True)/\((True)/\((G0 a2 none H4 fun t48=>t48=t24)/\True)))/\(((True)/\((True)/\((G0 t22 none H4 fun t47=>t47=t23)/\True)))/\(((True)/\((True)/\((G0 a4 none H4 fun t46=>t46=t21)/\True)))/\(((True)/\((True)/\((G0 a3 none H4 fun t45=>t45=t20)/\True)))/\(((True)/\((True)/\((True)/\((G0 a5 (some 3) H3 fun t42=>t42=t17)/\((G0 a5 (some 3) H2 fun t43=>t43=t17)/\((G0 a5 (some 3) H fun t44=>t44=t17)/\True))))))/\(((True)/\((True)/\((True)/\((True)/\((True)/\((G0 t13 none H fun t41=>t41=t14)/\True))))))/\(((True)/\((True)/\((True)/\((True)/\((True)/\((G0 a2 none H fun t40=>t40=t12)/\True))))))/\(((True)/\((True)/\((True)/\((True)/\((True)/\((G0 t10 none H fun t39=>t39=t11)/\True))))))/\(((True)/\((True)/\((True)/\((True)/\((True)/\((G0 a4 none H fun t38=>t38=t9)/\True))))))/\(((True)/\((True)/\((True)/\((True)/\((True)/\((G0 a3 none H fun t37=>t37=t8)/\True))))))/\(((True)/\((True)/\((True)/\((True)/\((G0 a3 none H2 fun t35=>t35=t7)/\((G0 a3 none H fun t36=>t36=t7)/\True))))))/\(((True)/\((True)/\((True)/\((True)/\((True)/\((G0 t2 none H fun t34=>t34=t3)/\True))))))/\(((True)/\((True)/\((True)/\((True)/\((True)/\((G0 a2 none H fun t33=>t33=t1)/\True))))))/\True))))))))))))))))/\(
 W1 t32 fun t52=>k t52 H6 nx6))\/False) (
 (((((True)/\((G0 a5 (some 3) H3 fun t62=>t62=t17)/\((G0 a5 (some 3) H2 fun t63=>t63=t17)/\((G0 a5 (some 3) H fun t64=>t64=t17)/\True))))/\(((True)/\((True)/\((True)/\((G0 t13 none H fun t61=>t61=t14)/\True))))/\(((True)/\((True)/\((True)/\((G0 a2 none H fun t60=>t60=t12)/\True))))/\(((True)/\((True)/\((True)/\((G0 t10 none H fun t59=>t59=t11)/\True))))/\(((True)/\((True)/\((True)/\((G0 a4 none H fun t58=>t58=t9)/\True))))/\(((True)/\((True)/\((True)/\((G0 a3 none H fun t57=>t57=t8)/\True))))/\(((True)/\((True)/\((G0 a3 none H2 fun t55=>t55=t7)/\((G0 a3 none H fun t56=>t56=t7)/\True))))/\(((True)/\((True)/\((True)/\((G0 t2 none H fun t54=>t54=t3)/\True))))/\(((True)/\((True)/\((True)/\((G0 a2 none H fun t53=>t53=t1)/\True))))/\True))))))))))/\(
 W1 (.bool false) fun t65=>k t65 H4 nx4))\/False)) (
 (((((G0 t2 none H fun t67=>t67=t3)/\True)/\(((G0 a2 none H fun t66=>t66=t1)/\True)/\True)))/\(
 W1 (.bool false) fun t68=>k t68 H nx1))\/False)
theorem spec51 {a4 a5:Value} (h:F51 a0 a1 a2 a3 a4 a5 H nx k):J2 Tryd.prog 51 [a0,a1,a2,a3,a4,a5] H nx k:=
 K2 mixed Z2 53 6 d51 [(.s 8,none)] (by kernel_rfl) (by kernel_rfl) (by simp) (by kernel_rfl) h
noncomputable def d30:D:=Y5 Tryd.prog 30 [(16,[12])] [[8,20],[12,36],[12,43],[12,48]] []
noncomputable def F30 (a0 a1 a2:Value) (H:Y0) (nx:Nat) (k:EP):Prop:=
 R5 a0 fun t1=>D2 (.cells t1 0) .ptr H nx fun t2 H1 nx1=>
 R5 a1 fun t3=>D2 (.cells t3 0) .ptr H1 nx1 fun t4 H2 nx2=>
 R5 a2 fun t5=>D2 (.cells t5 0) .ptr H2 nx2 fun t6 H3 nx3=>
 G0 t4 none H3 fun t7=>
 X3 t7 0 H3 fun t8=>
 K21 t8 t8 [.int .u32 0] fun t9 t11 t12=>D2 (.cells t9 0) (.slice t11 t12) H3 nx3 fun t10 H4 nx4=>
 D2 (.cells [.slice none 0 0] 0) .ptr H4 nx4 fun t13 H5 nx5=>
 W3 t13 t10 1 H5 fun H6=>
 G0 t4 none H6 fun t14=>
 X3 t14 0 H6 fun t15=>
 B3 (fun t16 t17 H7 nx7=>
 J0 .lss (t17.getD 1 undef) t15 fun t18=>
 G2 t18 (
 W2 t14 (t17.getD 1 undef) none 1 fun t19=>
 G0 t19 none H7 fun t20=>
 G0 t13 none H7 fun t21=>
 W2 t21 (t17.getD 1 undef) none 1 fun t22=>
 W3 t22 t20 1 H7 fun H8=>
 Z1 Tryd.prog 25 [t20] H8 nx7 fun t23 H9 nx9=>
 J0 .add (t17.getD 0 undef) t23 fun t24=>
 J0 .add (t17.getD 1 undef) (.int .i64 1) fun t25=>
 t16 [t24,t25] H9 nx9) (
 B3 (fun t26 t27 H10 nx10=>
 J0 .lss (t27.getD 1 undef) (t17.getD 0 undef) fun t28=>
 G2 t28 (
 B4 (fun t29=>
 G0 t2 none H10 fun t31=>
 D4 t31 fun t32=>
 D1 t32 0 fun t33=>
 D1 t33 0 fun t34=>
 G0 t34 none H10 fun t35=>
 B3 (fun t36 t37 H12 nx12=>
 J0 .lss (t37.getD 1 undef) t35 fun t38=>
 G2 t38 (
 G0 t13 none H12 fun t39=>
 X3 t39 0 H12 fun t40=>
 B3 (fun t41 t42 H13 nx13=>
 J0 .lss (t42.getD 1 undef) t40 fun t43=>
 G2 t43 (
 E22 Tryd.prog (.func (.func 51) ⟨[]⟩ ⟨[t13,t2,t4,t6]⟩) [(t42.getD 1 undef),(t37.getD 1 undef)] H13 nx13 fun t44 H14 nx14=>
 G2 t44 (
 G7 1 1 [.int .i64 0] [(0,(t37.getD 1 undef))] fun t45=>D2 (.cells t45 0) (.slice 1 1) H14 nx14 fun t46 H15 nx15=>
 U7 (t42.getD 0 undef) t46 1 8 H15 nx15 fun t47 H16 nx16=>
 E2 (nx16+9) fun nx17=>
 G0 t13 none H16 fun t48=>
 W2 t48 (t42.getD 1 undef) none 1 fun t49=>
 G0 t49 none H16 fun t50=>
 J0 .shl (.int .u32 1) (t37.getD 1 undef) fun t51=>
 J0 .andNot t50 t51 fun t52=>
 W2 t48 (t42.getD 1 undef) none 1 fun t53=>
 W3 t53 t52 1 H16 fun H18=>
 (((((True)/\((G0 t49 none H16 fun t55=>t55=t50)/\True))/\(((True)/\((G0 t13 none H16 fun t54=>t54=t48)/\True))/\True)))/\(
 t29 [t47] H18 nx17))\/False) (
 J0 .add (t42.getD 1 undef) (.int .i64 1) fun t56=>
 t41 [(t42.getD 0 undef),t56] H14 nx14)) (
 J0 .add (t37.getD 1 undef) (.int .i64 1) fun t57=>
 t36 [(t42.getD 0 undef),t57] H13 nx13)) [(t37.getD 0 undef),(.int .i64 0)] H12 nx12) (
 t29 [(t37.getD 0 undef)] H12 nx12)) [(t27.getD 0 undef),(.int .i64 0)] H10 nx10) (fun t30 H11 nx11=>
 J0 .add (t27.getD 1 undef) (.int .i64 1) fun t58=>
 t26 [(t30.getD 0 undef),t58] H11 nx11)) (
 W1 (t27.getD 0 undef) fun t59=>k t59 H10 nx10)) [(.slice none 0 0),(.int .i64 0)] H7 nx7)) [(.int .i64 0),(.int .i64 0)] H6 nx5
theorem spec30 (h:F30 a0 a1 a2 H nx k):J2 Tryd.prog 30 [a0,a1,a2] H nx k:=
 K2 mixed Z2 71 7 d30 [(.s 6,none)] (by kernel_rfl) (by kernel_rfl) (by simp) (by kernel_rfl) h
noncomputable def d24:D:=Y5 Tryd.prog 24 [(9,[])] [[18]] []
noncomputable def F24 (a0 a1:Value) (H:Y0) (nx:Nat) (k:EP):Prop:=
 R5 a0 fun t1=>D2 (.cells t1 0) .ptr H nx fun t2 H1 nx1=>
 D2 (.cells [.int .i64 0,.slice none 0 0] 0) .ptr H1 nx1 fun t3 H2 nx2=>
 G0 t2 (some 2) H2 fun t4=>
 Z1 Tryd.prog 42 [t4] H2 nx2 fun t5 H3 nx3=>
 J0 .neq t5 (.int .i64 0) fun t6=>
 G2 t6 (
 M4 [.int .i64 0,.slice none 0 0] [(0,1),(1,1)] [] fun t7=>
 W3 t3 t7 2 H3 fun H4=>
 G0 t3 (some 2) H4 fun t8=>
 W1 t8 fun t9=>k t9 H4 nx3) (
 D1 t2 0 fun t10=>
 G0 t10 none H3 fun t11=>
 M4 [.int .i64 0,.slice none 0 0] [(0,1),(1,1)] [(0,t11)] fun t12=>
 D2 (.cells [.int .i64 0,.slice none 0 0] 0) .ptr H3 nx3 fun t13 H5 nx5=>
 W3 t13 t12 2 H5 fun H6=>
 D1 t2 1 fun t14=>
 G0 t14 none H6 fun t15=>
 X3 t15 0 H6 fun t16=>
 B3 (fun t17 t18 H7 nx7=>
 J0 .lss (t18.getD 0 undef) t16 fun t19=>
 G2 t19 (
 B4 (fun t20=>
 W2 t15 (t18.getD 0 undef) none 1 fun t22=>
 G0 t22 none H7 fun t23=>
 J0 .and t23 a1 fun t24=>
 J0 .neq t24 (.int .u32 0) fun t25=>
 G2 t25 (
 D1 t13 1 fun t26=>
 G0 t26 none H7 fun t27=>
 J0 .and t23 a1 fun t28=>
 G7 1 1 [.int .u32 0] [(0,t28)] fun t29=>D2 (.cells t29 0) (.slice 1 1) H7 nx7 fun t30 H9 nx9=>
 U7 t27 t30 1 4 H9 nx9 fun t31 H10 nx10=>
 D1 t13 1 fun t32=>
 W3 t32 t31 1 H10 fun H11=>
 t20 [] H11 nx10) (
 t20 [] H7 nx7)) (fun t21 H8 nx8=>
 J0 .add (t18.getD 0 undef) (.int .i64 1) fun t33=>
 t17 [t33] H8 nx8)) (
 G0 t13 (some 2) H7 fun t34=>
 W3 t3 t34 2 H7 fun H12=>
 G0 t3 (some 2) H12 fun t35=>
 W1 t35 fun t36=>k t36 H12 nx7)) [(.int .i64 0)] H6 nx5)
theorem spec24 (h:F24 a0 a1 H nx k):J2 Tryd.prog 24 [a0,a1] H nx k:=
 K2 mixed Z2 36 6 d24 [(.s 4,some (some 2))] (by kernel_rfl) (by kernel_rfl) (by simp) (by kernel_rfl) h
noncomputable def d23:D:=Y5 Tryd.prog 23 [(20,[8])] [[4,5],[6,7],[8,31]] []
noncomputable def F23 (a0:Value) (H:Y0) (nx:Nat) (k:EP):Prop:=
 R5 a0 fun t1=>D2 (.cells t1 0) .ptr H nx fun t2 H1 nx1=>
 G0 t2 (some 2) H1 fun t3=>
 Z1 Tryd.prog 42 [t3] H1 nx1 fun t4 H2 nx2=>
 J0 .neq t4 (.int .i64 0) fun t5=>
 G2 t5 (
 W1 (.slice none 0 0) fun t6=>k t6 H2 nx2) (
 G0 t2 (some 2) H2 fun t7=>
 Z1 Tryd.prog 46 [t7] H2 nx2 fun t8 H3 nx3=>
 D2 (.cells [.int .u32 0,.int .u32 0,.int .u32 0,.int .u32 0,.int .u32 0,.int .u32 0,.int .u32 0,.int .u32 0,.int .u32 0,.int .u32 0,.int .u32 0,.int .u32 0,.int .u32 0,.int .u32 0,.int .u32 0,.int .u32 0,.int .u32 0,.int .u32 0,.int .u32 0,.int .u32 0,.int .u32 0,.int .u32 0,.int .u32 0,.int .u32 0,.int .u32 0,.int .u32 0,.int .u32 0,.int .u32 0,.int .u32 0,.int .u32 0,.int .u32 0,.int .u32 0] 0) .ptr H3 nx3 fun t9 H4 nx4=>
 W3 t9 t8 32 H4 fun H5=>
 D1 t2 0 fun t10=>
 G0 t10 none H5 fun t11=>
 Z1 Tryd.prog 47 [t11] H5 nx4 fun t12 H6 nx6=>
 B3 (fun t13 t14 H7 nx7=>
 J0 .neq (t14.getD 1 undef) (.int .u32 0) fun t15=>
 G2 t15 (
 wUn .neg (t14.getD 1 undef) fun t16=>
 J0 .and (t14.getD 1 undef) t16 fun t17=>
 B3 (fun t18 t19 H8 nx8=>
 J0 .neq (t19.getD 1 undef) (.int .u32 0) fun t20=>
 G2 t20 (
 J0 .or (t19.getD 0 undef) (t19.getD 1 undef) fun t21=>
 D1 t2 0 fun t22=>
 G0 t22 none H8 fun t23=>
 B3 (fun t24 t25 H9 nx9=>
 J0 .lss (t25.getD 1 undef) t23 fun t26=>
 G2 t26 (
 B4 (fun t27=>
 J0 .shr (t19.getD 1 undef) (t25.getD 1 undef) fun t29=>
 J0 .and t29 (.int .u32 1) fun t30=>
 J0 .eql t30 (.int .u32 1) fun t31=>
 G2 t31 (
 W2 t9 (t25.getD 1 undef) (some 32) 1 fun t32=>
 G0 t32 none H9 fun t33=>
 J0 .or (t25.getD 0 undef) t33 fun t34=>
 t27 [t34] H9 nx9) (
 t27 [(t25.getD 0 undef)] H9 nx9)) (fun t28 H10 nx10=>
 J0 .add (t25.getD 1 undef) (.int .i64 1) fun t35=>
 t24 [(t28.getD 0 undef),t35] H10 nx10)) (
 J0 .andNot (t25.getD 0 undef) t21 fun t36=>
 t18 [t21,t36] H9 nx9)) [(.int .u32 0),(.int .i64 0)] H8 nx8) (
 G7 1 1 [.int .u32 0] [(0,(t19.getD 0 undef))] fun t37=>D2 (.cells t37 0) (.slice 1 1) H8 nx8 fun t38 H11 nx11=>
 U7 (t14.getD 0 undef) t38 1 4 H11 nx11 fun t39 H12 nx12=>
 J0 .andNot (t14.getD 1 undef) (t19.getD 0 undef) fun t40=>
 t13 [t39,t40] H12 nx12)) [(.int .u32 0),t17] H7 nx7) (
 W1 (t14.getD 0 undef) fun t41=>k t41 H7 nx7)) [(.slice none 0 0),t12] H6 nx6)
theorem spec23 (h:F23 a0 H nx k):J2 Tryd.prog 23 [a0] H nx k:=
 K2 mixed Z2 56 6 d23 [(.s 2,none)] (by kernel_rfl) (by kernel_rfl) (by simp) (by kernel_rfl) h
noncomputable def d7:D:=Y5 Tryd.prog 7 [(11,[9])] [[9,37],[12,57],[83]] []
noncomputable def F7 (a0 a1:Value) (H:Y0) (nx:Nat) (k:EP):Prop:=
 R5 a0 fun t1=>D2 (.cells t1 0) .ptr H nx fun t2 H1 nx1=>
 D2 (.cells [.bool false,.slice none 0 0,.slice none 0 0] 0) .ptr H1 nx1 fun t3 H2 nx2=>
 G0 t2 (some 2) H2 fun t4=>
 Z1 Tryd.prog 21 [t4,a1] H2 nx2 fun t5 H3 nx3=>
 J0 .neq t5 (.int .i64 0) fun t6=>
 G2 t6 (
 M4 [.bool false,.slice none 0 0,.slice none 0 0] [(0,1),(1,1),(2,1)] [] fun t7=>
 W3 t3 t7 3 H3 fun H4=>
 G0 t3 (some 3) H4 fun t8=>
 W1 (.tuple ⟨[(.slice none 0 0),t8,t5]⟩) fun t9=>k t9 H4 nx3) (
 D1 t2 0 fun t10=>
 G0 t10 none H3 fun t11=>
 Z1 Tryd.prog 22 [t11] H3 nx3 fun t12 H5 nx5=>
 Z1 Tryd.prog 22 [a1] H5 nx5 fun t13 H6 nx6=>
 J0 .andNot t12 t13 fun t14=>
 G0 t2 (some 2) H6 fun t15=>
 Z1 Tryd.prog 24 [t15,t14] H6 nx6 fun t16 H7 nx7=>
 Z1 Tryd.prog 23 [t16] H7 nx7 fun t17 H8 nx8=>
 X3 t17 0 H8 fun t18=>
 B3 (fun t19 t20 H9 nx9=>
 J0 .lss (t20.getD 1 undef) t18 fun t21=>
 G2 t21 (
 B4 (fun t22=>
 W2 t17 (t20.getD 1 undef) none 1 fun t24=>
 G0 t24 none H9 fun t25=>
 J0 .and t25 t14 fun t26=>
 J0 .eql t26 (.int .u32 0) fun t27=>
 G2 t27 (
 t22 [(t20.getD 0 undef)] H9 nx9) (
 Z1 Tryd.prog 25 [t25] H9 nx9 fun t28 H11 nx11=>
 J0 .gtr t28 (.int .i64 8) fun t29=>
 G2 t29 (
 M4 [.bool false,.slice none 0 0,.slice none 0 0] [(0,1),(1,1),(2,1)] [] fun t30=>
 W3 t3 t30 3 H11 fun H12=>
 G0 t3 (some 3) H12 fun t31=>
 W1 (.tuple ⟨[(.slice none 0 0),t31,(.int .i64 12)]⟩) fun t32=>k t32 H12 nx11) (
 G7 1 1 [.int .u32 0] [(0,t25)] fun t33=>D2 (.cells t33 0) (.slice 1 1) H11 nx11 fun t34 H13 nx13=>
 U7 (t20.getD 0 undef) t34 1 4 H13 nx13 fun t35 H14 nx14=>
 t22 [t35] H14 nx14))) (fun t23 H10 nx10=>
 J0 .add (t20.getD 1 undef) (.int .i64 1) fun t36=>
 t19 [(t23.getD 0 undef),t36] H10 nx10)) (
 D1 t2 1 fun t37=>
 G0 t37 none H9 fun t38=>
 X3 t38 0 H9 fun t39=>
 B3 (fun t40 t41 H15 nx15=>
 J0 .lss (t41.getD 1 undef) t39 fun t42=>
 G2 t42 (
 W2 t38 (t41.getD 1 undef) none 1 fun t43=>
 G0 t43 none H15 fun t44=>
 J0 .or (t41.getD 0 undef) t44 fun t45=>
 J0 .add (t41.getD 1 undef) (.int .i64 1) fun t46=>
 t40 [t45,t46] H15 nx15) (
 D1 t2 0 fun t47=>
 G0 t47 none H15 fun t48=>
 Z1 Tryd.prog 22 [t48] H15 nx15 fun t49 H16 nx16=>
 J0 .neq (t41.getD 0 undef) t49 fun t50=>
 G2 t50 (
 M4 [.bool false,.slice none 0 0,.slice none 0 0] [(0,1),(1,1),(2,1)] [] fun t51=>
 W3 t3 t51 3 H16 fun H17=>
 G0 t3 (some 3) H17 fun t52=>
 W1 (.tuple ⟨[(.slice none 0 0),t52,(.int .i64 9)]⟩) fun t53=>k t53 H17 nx16) (
 E2 (nx16+8) fun nx18=>
 G0 t2 (some 2) H16 fun t54=>
 G0 t2 (some 2) H16 fun t55=>
 Z1 Tryd.prog 26 [t55] H16 nx18 fun t56 H19 nx19=>
 M50 none <| wNm nx16 3 .map fun t57=>
 M50 none <| wNm nx16 4 .map fun t59=>
 M4 [.int .i64 0,.slice none 0 0,.int .u32 0,.int .u32 0,.int .u32 0,.int .u32 0,.int .u32 0,.int .u32 0,.int .u32 0,.int .u32 0,.int .u32 0,.int .u32 0,.int .u32 0,.int .u32 0,.int .u32 0,.int .u32 0,.int .u32 0,.int .u32 0,.int .u32 0,.int .u32 0,.int .u32 0,.int .u32 0,.int .u32 0,.int .u32 0,.int .u32 0,.int .u32 0,.int .u32 0,.int .u32 0,.int .u32 0,.int .u32 0,.int .u32 0,.int .u32 0,.int .u32 0,.int .u32 0,.map none,.map none] [(0,2),(2,32),(34,1),(35,1)] [(0,t54),(1,t56),(2,t57),(3,t59)] fun t61=>
 R5 t61 fun t63=>wNm nx16 6 .ptr fun t62=>
 (((((True)/\((G0 t2 (some 2) H16 fun t66=>t66=t55)/\True))/\(((G0 t2 (some 2) H19 fun t64=>t64=t54)/\((G0 t2 (some 2) H16 fun t65=>t65=t54)/\True))/\True)))/\(
 hsK H19 (nx16+6) (some (.cells t63 0)) fun H20=>hsK H20 (nx16+4) (some (.map [] 0)) fun H21=>hsK H21 (nx16+3) (some (.map [] 0)) fun H22 => 
 Z1 Tryd.prog 27 [t62,a1] H22 nx19 fun t67 H23 nx23=>
 D2 (.cells [.bool false,.slice none 0 0,.slice none 0 0] 0) .ptr H23 nx23 fun t68 H24 nx24=>
 W3 t68 t67 3 H24 fun H25=>
 X3 (t20.getD 0 undef) 0 H25 fun t69=>
 B3 (fun t70 t71 H26 nx26=>
 J0 .lss (t71.getD 0 undef) t69 fun t72=>
 G2 t72 (
 W2 (t20.getD 0 undef) (t71.getD 0 undef) none 1 fun t73=>
 G0 t73 none H26 fun t74=>
 E2 (nx26+7) fun nx27=>
 G0 t68 (some 3) H26 fun t75=>
 Z1 Tryd.prog 29 [t62,t74,t74] H26 nx27 fun t76 H28 nx28=>
 Z1 Tryd.prog 28 [t75,t76] H28 nx28 fun t77 H29 nx29=>
 W3 t68 t77 3 H29 fun H30=>
 (((((True)/\((True)/\((G0 t68 (some 3) H28 fun t78=>t78=t75)/\((G0 t68 (some 3) H26 fun t79=>t79=t75)/\True))))/\True))/\(
 J0 .add (t71.getD 0 undef) (.int .i64 1) fun t80=>
 t70 [t80] H30 nx29))\/False) (
 E2 (nx26+8) fun nx31=>
 G0 t68 (some 3) H26 fun t81=>
 Z1 Tryd.prog 30 [t62,(t20.getD 0 undef),t81] H26 nx31 fun t82 H32 nx32=>
 G0 t68 (some 3) H32 fun t83=>
 W3 t3 t83 3 H32 fun H33=>
 (((((True)/\((G0 t68 (some 3) H32 fun t85=>t85=t83)/\((G0 t68 (some 3) H26 fun t86=>t86=t83)/\True)))/\(((True)/\((True)/\((G0 t68 (some 3) H26 fun t84=>t84=t81)/\True)))/\True)))/\(
 G0 t3 (some 3) H33 fun t87=>
 W1 (.tuple ⟨[t82,t87,(.int .i64 0)]⟩) fun t88=>k t88 H33 nx32))\/False)) [(.int .i64 0)] H25 nx24))\/False))) [(.int .u32 0),(.int .i64 0)] H9 nx9)) [(.slice none 0 0),(.int .i64 0)] H8 nx8)
theorem spec7 (h:F7 a0 a1 H nx k):J2 Tryd.prog 7 [a0,a1] H nx k:=
 K2 mixed Z2 99 7 d7 [(.s 4,none),(.s 5,some (some 3)),(.s 6,none)] (by kernel_rfl) (by kernel_rfl) (by simp) (by kernel_rfl) h
end Go.Proofs.YtpiobdofbhkmjaaDoor
