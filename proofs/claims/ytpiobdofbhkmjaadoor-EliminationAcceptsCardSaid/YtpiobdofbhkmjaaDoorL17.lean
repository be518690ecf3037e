/-
  MADE BY PROGRAM (wip/gen/gen.py): functions 53 68 32 55 69 54 56 57 33 102 103 34 72 87 91 88 89 90 67 86 73 59 52 71 as marked code,and their claims written out.
-/
import Derived.Test.YtpiobdofbhkmjaaDoorL16
import Derived.KernelRfl
set_option linter.unusedSimpArgs false
set_option linter.unusedVariables false
set_option linter.unusedSectionVars false
namespace Go.Proofs.YtpiobdofbhkmjaaDoor
open Go.Clo
set_option maxRecDepth 100000
variable {H:Y0} {a0 a1:Value} {k:EP} {nx:Nat}
noncomputable def d53:D:=Y5 Tryd.prog 53 [] [] []
noncomputable def F53 (a0:Value) (H:Y0) (nx:Nat) (k:EP):Prop:=
 J0 .neq a0 a0 fun t1=>
 W1 t1 fun t2=>k t2 H nx
theorem spec53 (h:F53 a0 H nx k):J2 Tryd.prog 53 [a0] H nx k:=
 K2 mixed Z2 6 3 d53 [(.s 2,none)] (by kernel_rfl) (by kernel_rfl) (by simp) (by kernel_rfl) h
noncomputable def d68:D:=Y5 Tryd.prog 68 [] [] []
noncomputable def F68 (a0:Value) (H:Y0) (nx:Nat) (k:EP):Prop:=
 J0 .neq a0 a0 fun t1=>
 W1 t1 fun t2=>k t2 H nx
theorem spec68 (h:F68 a0 H nx k):J2 Tryd.prog 68 [a0] H nx k:=
 K2 mixed Z2 6 3 d68 [(.s 2,none)] (by kernel_rfl) (by kernel_rfl) (by simp) (by kernel_rfl) h
noncomputable def d32:D:=Y5 Tryd.prog 32 [] [] []
noncomputable def F32 (a0 a1:Value) (H:Y0) (nx:Nat) (k:EP):Prop:=
 Z1 Tryd.prog 53 [a0] H nx fun t1 H1 nx1=>
 Z1 Tryd.prog 53 [a1] H1 nx1 fun t2 H2 nx2=>
 G2 t1 (
 G2 t2 (
 W1 (.int .i64 0) fun t3=>k t3 H2 nx2) (
 W1 (.int .i64 (-1)) fun t4=>k t4 H2 nx2)) (
 G2 t2 (
 W1 (.int .i64 1) fun t5=>k t5 H2 nx2) (
 J0 .lss a0 a1 fun t6=>
 G2 t6 (
 W1 (.int .i64 (-1)) fun t7=>k t7 H2 nx2) (
 J0 .gtr a0 a1 fun t8=>
 G2 t8 (
 W1 (.int .i64 1) fun t9=>k t9 H2 nx2) (
 W1 (.int .i64 0) fun t10=>k t10 H2 nx2))))
theorem spec32 (h:F32 a0 a1 H nx k):J2 Tryd.prog 32 [a0,a1] H nx k:=
 K2 mixed Z2 20 5 d32 [(.s 4,none)] (by kernel_rfl) (by kernel_rfl) (by simp) (by kernel_rfl) h
noncomputable def d55:D:=Y5 Tryd.prog 55 [] [] []
noncomputable def F55 (a0 a1:Value) (H:Y0) (nx:Nat) (k:EP):Prop:=
 Z1 Tryd.prog 68 [a0] H nx fun t1 H1 nx1=>
 Z1 Tryd.prog 68 [a1] H1 nx1 fun t2 H2 nx2=>
 G2 t1 (
 G2 t2 (
 W1 (.int .i64 0) fun t3=>k t3 H2 nx2) (
 W1 (.int .i64 (-1)) fun t4=>k t4 H2 nx2)) (
 G2 t2 (
 W1 (.int .i64 1) fun t5=>k t5 H2 nx2) (
 J0 .lss a0 a1 fun t6=>
 G2 t6 (
 W1 (.int .i64 (-1)) fun t7=>k t7 H2 nx2) (
 J0 .gtr a0 a1 fun t8=>
 G2 t8 (
 W1 (.int .i64 1) fun t9=>k t9 H2 nx2) (
 W1 (.int .i64 0) fun t10=>k t10 H2 nx2))))
theorem spec55 (h:F55 a0 a1 H nx k):J2 Tryd.prog 55 [a0,a1] H nx k:=
 K2 mixed Z2 20 5 d55 [(.s 4,none)] (by kernel_rfl) (by kernel_rfl) (by simp) (by kernel_rfl) h
noncomputable def d69:D:=Y5 Tryd.prog 69 [] [] []
noncomputable def F69 (a0:Value) (H:Y0) (nx:Nat) (k:EP):Prop:=
 wVf (.eqn false (.slice 42)) [a0,(.slice none 0 0)] fun t1=>
 G2 t1 (
 W1 (.slice none 0 0) fun t2=>k t2 H nx) (
 G7 0 1 [.int .u32 0] [] fun t3=>D2 (.cells t3 0) (.slice 0 0) H nx fun t4 H1 nx1=>
 U7 t4 a0 1 4 H1 nx1 fun t5 H2 nx2=>
 W1 t5 fun t6=>k t6 H2 nx2)
theorem spec69 (h:F69 a0 H nx k):J2 Tryd.prog 69 [a0] H nx k:=
 K2 mixed Z2 8 4 d69 [(.s 2,none)] (by kernel_rfl) (by kernel_rfl) (by simp) (by kernel_rfl) h
noncomputable def d54:D:=Y5 Tryd.prog 54 [(4,[15])] [[3]] [.one (.tst (.one .nil) (.one .nil))]
noncomputable def F54 (a0:Value) (H:Y0) (nx:Nat) (k:EP):Prop:=
 X3 a0 0 H fun t1=>
 B3 (fun t2 t3 H1 nx1=>
 B4 (fun t4=>
 J0 .gtr (t3.getD 0 undef) (.int .i64 0) fun t6=>
 J4 true t6 (
 J0 .sub (t3.getD 0 undef) (.int .i64 1) fun t7=>
 W2 a0 t7 none 1 fun t8=>
 G0 t8 none H1 fun t9=>
 J0 .eql t9 (.int .u32 0) fun t10=>
 t4 [t10] H1 nx1) (
 t4 [(.bool false)] H1 nx1)) (fun t5 H2 nx2=>
 G2 (t5.getD 0 undef) (
 J0 .sub (t3.getD 0 undef) (.int .i64 1) fun t11=>
 t2 [t11] H2 nx2) (
 wSl a0 1 none (some (t3.getD 0 undef)) (some (t3.getD 0 undef)) H2 fun t12=>
 W1 t12 fun t13=>k t13 H2 nx2))) [t1] H nx
theorem spec54 (h:F54 a0 H nx k):J2 Tryd.prog 54 [a0] H nx k:=
 K2 mixed Z2 22 5 d54 [(.s 2,none)] (by kernel_rfl) (by kernel_rfl) (by simp) (by kernel_rfl) h
noncomputable def d56:D:=Y5 Tryd.prog 56 [] [] []
noncomputable def F56 (a0:Value) (H:Y0) (nx:Nat) (k:EP):Prop:=
 M3 .u32 a0 fun t1=>
 J0 .shr a0 (.int .u64 32) fun t2=>
 M3 .u32 t2 fun t3=>
 G7 2 1 [.int .u32 0] [(0,t1),(1,t3)] fun t4=>D2 (.cells t4 0) (.slice 2 2) H nx fun t5 H1 nx1=>
 Z1 Tryd.prog 54 [t5] H1 nx1 fun t6 H2 nx2=>
 W1 t6 fun t7=>k t7 H2 nx2
theorem spec56 (h:F56 a0 H nx k):J2 Tryd.prog 56 [a0] H nx k:=
 K2 mixed Z2 10 4 d56 [(.s 2,none)] (by kernel_rfl) (by kernel_rfl) (by simp) (by kernel_rfl) h
noncomputable def d57:D:=Y5 Tryd.prog 57 [] [] []
noncomputable def F57 (a0:Value) (H:Y0) (nx:Nat) (k:EP):Prop:=
 Z1 Tryd.prog 54 [a0] H nx fun t1 H1 nx1=>
 Z1 Tryd.prog 69 [t1] H1 nx1 fun t2 H2 nx2=>
 W1 t2 fun t3=>k t3 H2 nx2
theorem spec57 (h:F57 a0 H nx k):J2 Tryd.prog 57 [a0] H nx k:=
 K2 mixed Z2 6 3 d57 [(.s 2,none)] (by kernel_rfl) (by kernel_rfl) (by simp) (by kernel_rfl) h
noncomputable def d33:D:=Y5 Tryd.prog 33 [] [[5]] []
noncomputable def F33 (a0 a1:Value) (H:Y0) (nx:Nat) (k:EP):Prop:=
 Z1 Tryd.prog 54 [a0] H nx fun t1 H1 nx1=>
 Z1 Tryd.prog 54 [a1] H1 nx1 fun t2 H2 nx2=>
 X3 t1 0 H2 fun t3=>
 X3 t2 0 H2 fun t4=>
 J0 .neq t3 t4 fun t5=>
 G2 t5 (
 X3 t1 0 H2 fun t6=>
 X3 t2 0 H2 fun t7=>
 Z1 Tryd.prog 32 [t6,t7] H2 nx2 fun t8 H3 nx3=>
 W1 t8 fun t9=>k t9 H3 nx3) (
 X3 t1 0 H2 fun t10=>
 J0 .sub t10 (.int .i64 1) fun t11=>
 B3 (fun t12 t13 H4 nx4=>
 J0 .geq (t13.getD 0 undef) (.int .i64 0) fun t14=>
 G2 t14 (
 E2 (nx4+9) fun nx5=>
 W2 t1 (t13.getD 0 undef) none 1 fun t15=>
 G0 t15 none H4 fun t16=>
 W2 t2 (t13.getD 0 undef) none 1 fun t17=>
 G0 t17 none H4 fun t18=>
 J0 .neq t16 t18 fun t19=>
 (((((G0 t17 none H4 fun t21=>t21=t18)/\True)/\(((G0 t15 none H4 fun t20=>t20=t16)/\True)/\True)))/\(
 G2 t19 (
 E2 (nx5+10) fun nx6=>
 W2 t1 (t13.getD 0 undef) none 1 fun t22=>
 G0 t22 none H4 fun t23=>
 W2 t2 (t13.getD 0 undef) none 1 fun t24=>
 G0 t24 none H4 fun t25=>
 Z1 Tryd.prog 55 [t23,t25] H4 nx6 fun t26 H7 nx7=>
 (((((True)/\((G0 t24 none H4 fun t28=>t28=t25)/\True))/\(((True)/\((G0 t22 none H4 fun t27=>t27=t23)/\True))/\True)))/\(
 W1 t26 fun t29=>k t29 H7 nx7))\/False) (
 J0 .sub (t13.getD 0 undef) (.int .i64 1) fun t30=>
 t12 [t30] H4 nx5)))\/False) (
 W1 (.int .i64 0) fun t31=>k t31 H4 nx4)) [t11] H2 nx2)
theorem spec33 (h:F33 a0 a1 H nx k):J2 Tryd.prog 33 [a0,a1] H nx k:=
 K2 mixed Z2 45 6 d33 [(.s 4,none)] (by kernel_rfl) (by kernel_rfl) (by simp) (by kernel_rfl) h
noncomputable def d102:D:=Y5 Tryd.prog 102 [(2,[0,1]),(13,[6])] [[6,25]] []
noncomputable def F102 (a0 a1:Value) (H:Y0) (nx:Nat) (k:EP):Prop:=
 Z1 Tryd.prog 54 [a0] H nx fun t1 H1 nx1=>
 Z1 Tryd.prog 54 [a1] H1 nx1 fun t2 H2 nx2=>
 B4 (fun t3=>
 X3 t1 0 H2 fun t5=>
 X3 t2 0 H2 fun t6=>
 J0 .lss t5 t6 fun t7=>
 G2 t7 (
 t3 [t2,t1] H2 nx2) (
 t3 [t1,t2] H2 nx2)) (fun t4 H3 nx3=>
 X3 (t4.getD 0 undef) 0 H3 fun t8=>
 J0 .add t8 (.int .i64 1) fun t9=>
 K21 t9 t9 [.int .u32 0] fun t10 t12 t13=>D2 (.cells t10 0) (.slice t12 t13) H3 nx3 fun t11 H4 nx4=>
 X3 (t4.getD 0 undef) 0 H4 fun t14=>
 B3 (fun t15 t16 H5 nx5=>
 J0 .lss (t16.getD 1 undef) t14 fun t17=>
 G2 t17 (
 W2 (t4.getD 0 undef) (t16.getD 1 undef) none 1 fun t18=>
 G0 t18 none H5 fun t19=>
 M3 .u64 t19 fun t20=>
 J0 .add (t16.getD 0 undef) t20 fun t21=>
 B4 (fun t22=>
 X3 (t4.getD 1 undef) 0 H5 fun t24=>
 J0 .lss (t16.getD 1 undef) t24 fun t25=>
 G2 t25 (
 W2 (t4.getD 1 undef) (t16.getD 1 undef) none 1 fun t26=>
 G0 t26 none H5 fun t27=>
 M3 .u64 t27 fun t28=>
 J0 .add t21 t28 fun t29=>
 t22 [t29] H5 nx5) (
 t22 [t21] H5 nx5)) (fun t23 H6 nx6=>
 M3 .u32 (t23.getD 0 undef) fun t30=>
 W2 t11 (t16.getD 1 undef) none 1 fun t31=>
 W3 t31 t30 1 H6 fun H7=>
 J0 .shr (t23.getD 0 undef) (.int .u64 32) fun t32=>
 J0 .add (t16.getD 1 undef) (.int .i64 1) fun t33=>
 t15 [t32,t33] H7 nx6)) (
 X3 (t4.getD 0 undef) 0 H5 fun t34=>
 M3 .u32 (t16.getD 0 undef) fun t35=>
 W2 t11 t34 none 1 fun t36=>
 W3 t36 t35 1 H5 fun H8=>
 Z1 Tryd.prog 54 [t11] H8 nx5 fun t37 H9 nx9=>
 W1 t37 fun t38=>k t38 H9 nx9)) [(.int .u64 0),(.int .i64 0)] H4 nx4)
theorem spec102 (h:F102 a0 a1 H nx k):J2 Tryd.prog 102 [a0,a1] H nx k:=
 K2 mixed Z2 62 6 d102 [(.s 4,none)] (by kernel_rfl) (by kernel_rfl) (by simp) (by kernel_rfl) h
noncomputable def d103:D:=Y5 Tryd.prog 103 [(14,[9])] [[7,23]] []
noncomputable def F103 (a0 a1:Value) (H:Y0) (nx:Nat) (k:EP):Prop:=
 Z1 Tryd.prog 54 [a0] H nx fun t1 H1 nx1=>
 Z1 Tryd.prog 54 [a1] H1 nx1 fun t2 H2 nx2=>
 Z1 Tryd.prog 33 [t1,t2] H2 nx2 fun t3 H3 nx3=>
 J0 .lss t3 (.int .i64 0) fun t4=>
 G2 t4 (
 W1 (.tuple ⟨[(.slice none 0 0),(.int .i64 19)]⟩) fun t5=>k t5 H3 nx3) (
 X3 t1 0 H3 fun t6=>
 K21 t6 t6 [.int .u32 0] fun t7 t9 t10=>D2 (.cells t7 0) (.slice t9 t10) H3 nx3 fun t8 H4 nx4=>
 X3 t1 0 H4 fun t11=>
 B3 (fun t12 t13 H5 nx5=>
 J0 .lss (t13.getD 1 undef) t11 fun t14=>
 G2 t14 (
 W2 t1 (t13.getD 1 undef) none 1 fun t15=>
 G0 t15 none H5 fun t16=>
 M3 .u64 t16 fun t17=>
 J0 .sub t17 (t13.getD 0 undef) fun t18=>
 B4 (fun t19=>
 X3 t2 0 H5 fun t21=>
 J0 .lss (t13.getD 1 undef) t21 fun t22=>
 G2 t22 (
 W2 t2 (t13.getD 1 undef) none 1 fun t23=>
 G0 t23 none H5 fun t24=>
 M3 .u64 t24 fun t25=>
 J0 .sub t18 t25 fun t26=>
 t19 [t26] H5 nx5) (
 t19 [t18] H5 nx5)) (fun t20 H6 nx6=>
 M3 .u32 (t20.getD 0 undef) fun t27=>
 W2 t8 (t13.getD 1 undef) none 1 fun t28=>
 W3 t28 t27 1 H6 fun H7=>
 J0 .shr (t20.getD 0 undef) (.int .u64 63) fun t29=>
 J0 .add (t13.getD 1 undef) (.int .i64 1) fun t30=>
 t12 [t29,t30] H7 nx6)) (
 Z1 Tryd.prog 54 [t8] H5 nx5 fun t31 H8 nx8=>
 W1 (.tuple ⟨[t31,(.int .i64 0)]⟩) fun t32=>k t32 H8 nx8)) [(.int .u64 0),(.int .i64 0)] H4 nx4)
theorem spec103 (h:F103 a0 a1 H nx k):J2 Tryd.prog 103 [a0,a1] H nx k:=
 K2 mixed Z2 54 6 d103 [(.s 4,none),(.s 5,none)] (by kernel_rfl) (by kernel_rfl) (by simp) (by kernel_rfl) h
noncomputable def d34:D:=Y5 Tryd.prog 34 [] [[21],[7,26]] []
noncomputable def F34 (a0 a1:Value) (H:Y0) (nx:Nat) (k:EP):Prop:=
 Z1 Tryd.prog 54 [a0] H nx fun t1 H1 nx1=>
 Z1 Tryd.prog 54 [a1] H1 nx1 fun t2 H2 nx2=>
 X3 t1 0 H2 fun t3=>
 X3 t2 0 H2 fun t4=>
 J0 .add t3 t4 fun t5=>
 K21 t5 t5 [.int .u32 0] fun t6 t8 t9=>D2 (.cells t6 0) (.slice t8 t9) H2 nx2 fun t7 H3 nx3=>
 X3 t1 0 H3 fun t10=>
 B3 (fun t11 t12 H4 nx4=>
 J0 .lss (t12.getD 0 undef) t10 fun t13=>
 G2 t13 (
 X3 t2 0 H4 fun t14=>
 B3 (fun t15 t16 H5 nx5=>
 J0 .lss (t16.getD 1 undef) t14 fun t17=>
 G2 t17 (
 E2 (nx5+22) fun nx6=>
 W2 t1 (t12.getD 0 undef) none 1 fun t18=>
 G0 t18 none H5 fun t19=>
 M3 .u64 t19 fun t20=>
 W2 t2 (t16.getD 1 undef) none 1 fun t21=>
 G0 t21 none H5 fun t22=>
 M3 .u64 t22 fun t23=>
 J0 .mul t20 t23 fun t24=>
 J0 .add (t12.getD 0 undef) (t16.getD 1 undef) fun t25=>
 W2 t7 t25 none 1 fun t26=>
 G0 t26 none H5 fun t27=>
 M3 .u64 t27 fun t28=>
 J0 .add t24 t28 fun t29=>
 J0 .add (t16.getD 0 undef) t29 fun t30=>
 (((((M3 .u64 t27 fun t36=>t36=t28)/\True)/\(((G0 t26 none H5 fun t35=>t35=t27)/\True)/\(((M3 .u64 t22 fun t34=>t34=t23)/\True)/\(((G0 t21 none H5 fun t33=>t33=t22)/\True)/\(((M3 .u64 t19 fun t32=>t32=t20)/\True)/\(((G0 t18 none H5 fun t31=>t31=t19)/\True)/\True)))))))/\(
 J0 .add (t12.getD 0 undef) (t16.getD 1 undef) fun t37=>
 M3 .u32 t30 fun t38=>
 W2 t7 t37 none 1 fun t39=>
 W3 t39 t38 1 H5 fun H7=>
 J0 .shr t30 (.int .u64 32) fun t40=>
 J0 .add (t16.getD 1 undef) (.int .i64 1) fun t41=>
 t15 [t40,t41] H7 nx6))\/False) (
 X3 t2 0 H5 fun t42=>
 J0 .add (t12.getD 0 undef) t42 fun t43=>
 M3 .u32 (t16.getD 0 undef) fun t44=>
 W2 t7 t43 none 1 fun t45=>
 W3 t45 t44 1 H5 fun H8=>
 J0 .add (t12.getD 0 undef) (.int .i64 1) fun t46=>
 t11 [t46] H8 nx5)) [(.int .u64 0),(.int .i64 0)] H4 nx4) (
 Z1 Tryd.prog 54 [t7] H4 nx4 fun t47 H9 nx9=>
 W1 t47 fun t48=>k t48 H9 nx9)) [(.int .i64 0)] H3 nx3
theorem spec34 (h:F34 a0 a1 H nx k):J2 Tryd.prog 34 [a0,a1] H nx k:=
 K2 mixed Z2 71 7 d34 [(.s 4,none)] (by kernel_rfl) (by kernel_rfl) (by simp) (by kernel_rfl) h
noncomputable def d72:D:=Y5 Tryd.prog 72 [] [[5,6]] []
noncomputable def F72 (a0 a1:Value) (H:Y0) (nx:Nat) (k:EP):Prop:=
 X3 a0 0 H fun t1=>
 J0 .sub t1 (.int .i64 1) fun t2=>
 B3 (fun t3 t4 H1 nx1=>
 J0 .geq (t4.getD 1 undef) (.int .i64 0) fun t5=>
 G2 t5 (
 J0 .shl (t4.getD 0 undef) (.int .u64 32) fun t6=>
 W2 a0 (t4.getD 1 undef) none 1 fun t7=>
 G0 t7 none H1 fun t8=>
 M3 .u64 t8 fun t9=>
 J0 .or t6 t9 fun t10=>
 M3 .u64 a1 fun t11=>
 J0 .quo t10 t11 fun t12=>
 M3 .u32 t12 fun t13=>
 W2 a0 (t4.getD 1 undef) none 1 fun t14=>
 W3 t14 t13 1 H1 fun H2=>
 M3 .u64 a1 fun t15=>
 J0 .rem t10 t15 fun t16=>
 J0 .sub (t4.getD 1 undef) (.int .i64 1) fun t17=>
 t3 [t16,t17] H2 nx1) (
 M3 .u32 (t4.getD 0 undef) fun t18=>
 W1 t18 fun t19=>k t19 H1 nx1)) [(.int .u64 0),t2] H nx
theorem spec72 (h:F72 a0 a1 H nx k):J2 Tryd.prog 72 [a0,a1] H nx k:=
 K2 mixed Z2 36 6 d72 [(.s 4,none)] (by kernel_rfl) (by kernel_rfl) (by simp) (by kernel_rfl) h
noncomputable def d87:D:=Y5 Tryd.prog 87 [] [[6,14]] []
noncomputable def F87 (a0 a1:Value) (H:Y0) (nx:Nat) (k:EP):Prop:=
 X3 a0 0 H fun t1=>
 J0 .add t1 (.int .i64 1) fun t2=>
 K21 t2 t2 [.int .u32 0] fun t3 t5 t6=>D2 (.cells t3 0) (.slice t5 t6) H nx fun t4 H1 nx1=>
 X3 a0 0 H1 fun t7=>
 B3 (fun t8 t9 H2 nx2=>
 J0 .lss (t9.getD 1 undef) t7 fun t10=>
 G2 t10 (
 W2 a0 (t9.getD 1 undef) none 1 fun t11=>
 G0 t11 none H2 fun t12=>
 M3 .u64 t12 fun t13=>
 J0 .shl t13 a1 fun t14=>
 J0 .or (t9.getD 0 undef) t14 fun t15=>
 M3 .u32 t15 fun t16=>
 W2 t4 (t9.getD 1 undef) none 1 fun t17=>
 W3 t17 t16 1 H2 fun H3=>
 J0 .shr t15 (.int .u64 32) fun t18=>
 J0 .add (t9.getD 1 undef) (.int .i64 1) fun t19=>
 t8 [t18,t19] H3 nx2) (
 X3 a0 0 H2 fun t20=>
 M3 .u32 (t9.getD 0 undef) fun t21=>
 W2 t4 t20 none 1 fun t22=>
 W3 t22 t21 1 H2 fun H4=>
 W1 t4 fun t23=>k t23 H4 nx2)) [(.int .u64 0),(.int .i64 0)] H1 nx1
theorem spec87 (h:F87 a0 a1 H nx k):J2 Tryd.prog 87 [a0,a1] H nx k:=
 K2 mixed Z2 41 6 d87 [(.s 4,none)] (by kernel_rfl) (by kernel_rfl) (by simp) (by kernel_rfl) h
noncomputable def d91:D:=Y5 Tryd.prog 91 [] [[6,7]] []
noncomputable def F91 (a0 a1:Value) (H:Y0) (nx:Nat) (k:EP):Prop:=
 X3 a0 0 H fun t1=>
 K21 t1 t1 [.int .u32 0] fun t2 t4 t5=>D2 (.cells t2 0) (.slice t4 t5) H nx fun t3 H1 nx1=>
 X3 a0 0 H1 fun t6=>
 J0 .sub t6 (.int .i64 1) fun t7=>
 B3 (fun t8 t9 H2 nx2=>
 J0 .geq (t9.getD 1 undef) (.int .i64 0) fun t10=>
 G2 t10 (
 J0 .shl (t9.getD 0 undef) (.int .u64 32) fun t11=>
 W2 a0 (t9.getD 1 undef) none 1 fun t12=>
 G0 t12 none H2 fun t13=>
 M3 .u64 t13 fun t14=>
 J0 .or t11 t14 fun t15=>
 J0 .shr t15 a1 fun t16=>
 M3 .u32 t16 fun t17=>
 W2 t3 (t9.getD 1 undef) none 1 fun t18=>
 W3 t18 t17 1 H2 fun H3=>
 J0 .sub (t9.getD 1 undef) (.int .i64 1) fun t19=>
 t8 [t15,t19] H3 nx2) (
 W1 t3 fun t20=>k t20 H2 nx2)) [(.int .u64 0),t7] H1 nx1
theorem spec91 (h:F91 a0 a1 H nx k):J2 Tryd.prog 91 [a0,a1] H nx k:=
 K2 mixed Z2 34 6 d91 [(.s 4,none)] (by kernel_rfl) (by kernel_rfl) (by simp) (by kernel_rfl) h
noncomputable def d88:D:=Y5 Tryd.prog 88 [(7,[61])] [[7,8]] [.one (.tst (.one .nil) (.one .nil))]
noncomputable def F88 (a0 a1:Value) (H:Y0) (nx:Nat) (k:EP):Prop:=
 X3 a1 0 H fun t1=>
 E2 (nx+14) fun nx1=>
 W2 a0 t1 none 1 fun t2=>
 G0 t2 none H fun t3=>
 M3 .u64 t3 fun t4=>
 J0 .shl t4 (.int .u64 32) fun t5=>
 J0 .sub t1 (.int .i64 1) fun t6=>
 W2 a0 t6 none 1 fun t7=>
 G0 t7 none H fun t8=>
 M3 .u64 t8 fun t9=>
 J0 .or t5 t9 fun t10=>
 (((((M3 .u64 t8 fun t14=>t14=t9)/\True)/\(((G0 t7 none H fun t13=>t13=t8)/\True)/\(((M3 .u64 t3 fun t12=>t12=t4)/\True)/\(((G0 t2 none H fun t11=>t11=t3)/\True)/\True)))))/\(
 J0 .sub t1 (.int .i64 1) fun t15=>
 W2 a1 t15 none 1 fun t16=>
 G0 t16 none H fun t17=>
 M3 .u64 t17 fun t18=>
 J0 .quo t10 t18 fun t19=>
 J0 .sub t1 (.int .i64 1) fun t20=>
 W2 a1 t20 none 1 fun t21=>
 G0 t21 none H fun t22=>
 M3 .u64 t22 fun t23=>
 J0 .rem t10 t23 fun t24=>
 B3 (fun t25 t26 H2 nx2=>
 B4 (fun t27=>
 E2 (nx2+22) fun nx4=>
 J0 .gtr (t26.getD 0 undef) (.int .u64 4294967295) fun t29=>
 J4 false t29 (
 J0 .sub t1 (.int .i64 2) fun t30=>
 W2 a1 t30 none 1 fun t31=>
 G0 t31 none H2 fun t32=>
 M3 .u64 t32 fun t33=>
 J0 .mul (t26.getD 0 undef) t33 fun t34=>
 J0 .shl (t26.getD 1 undef) (.int .u64 32) fun t35=>
 J0 .sub t1 (.int .i64 2) fun t36=>
 W2 a0 t36 none 1 fun t37=>
 G0 t37 none H2 fun t38=>
 M3 .u64 t38 fun t39=>
 J0 .or t35 t39 fun t40=>
 J0 .gtr t34 t40 fun t41=>
 (((((M3 .u64 t38 fun t45=>t45=t39)/\True)/\(((G0 t37 none H2 fun t44=>t44=t38)/\True)/\(((M3 .u64 t32 fun t43=>t43=t33)/\True)/\(((G0 t31 none H2 fun t42=>t42=t32)/\True)/\True)))))/\(
 t27 [t41] H2 nx4))\/False) (
 ((True)/\(
 t27 [(.bool true)] H2 nx4))\/False)) (fun t28 H3 nx3=>
 G2 (t28.getD 0 undef) (
 J0 .sub (t26.getD 0 undef) (.int .u64 1) fun t46=>
 J0 .sub t1 (.int .i64 1) fun t47=>
 W2 a1 t47 none 1 fun t48=>
 G0 t48 none H3 fun t49=>
 M3 .u64 t49 fun t50=>
 J0 .add (t26.getD 1 undef) t50 fun t51=>
 J0 .gtr t51 (.int .u64 4294967295) fun t52=>
 G2 t52 (
 W1 t46 fun t53=>k t53 H3 nx3) (
 t25 [t46,t51] H3 nx3)) (
 W1 (t26.getD 0 undef) fun t54=>k t54 H3 nx3))) [t19,t24] H nx1))\/False
theorem spec88 (h:F88 a0 a1 H nx k):J2 Tryd.prog 88 [a0,a1] H nx k:=
 K2 mixed Z2 75 7 d88 [(.s 4,none)] (by kernel_rfl) (by kernel_rfl) (by simp) (by kernel_rfl) h
noncomputable def d89:D:=Y5 Tryd.prog 89 [] [[7,8,14]] []
noncomputable def F89 (a0 a1 a2:Value) (H:Y0) (nx:Nat) (k:EP):Prop:=
 X3 a1 0 H fun t1=>
 B3 (fun t2 t3 H1 nx1=>
 J0 .lss (t3.getD 2 undef) t1 fun t4=>
 G2 t4 (
 W2 a1 (t3.getD 2 undef) none 1 fun t5=>
 G0 t5 none H1 fun t6=>
 M3 .u64 t6 fun t7=>
 J0 .mul a2 t7 fun t8=>
 J0 .add (t3.getD 0 undef) t8 fun t9=>
 W2 a0 (t3.getD 2 undef) none 1 fun t10=>
 G0 t10 none H1 fun t11=>
 M3 .u64 t11 fun t12=>
 J0 .and t9 (.int .u64 4294967295) fun t13=>
 J0 .sub t12 t13 fun t14=>
 J0 .sub t14 (t3.getD 1 undef) fun t15=>
 M3 .u32 t15 fun t16=>
 W2 a0 (t3.getD 2 undef) none 1 fun t17=>
 W3 t17 t16 1 H1 fun H2=>
 J0 .shr t15 (.int .u64 63) fun t18=>
 J0 .shr t9 (.int .u64 32) fun t19=>
 J0 .add (t3.getD 2 undef) (.int .i64 1) fun t20=>
 t2 [t19,t18,t20] H2 nx1) (
 X3 a1 0 H1 fun t21=>
 W2 a0 t21 none 1 fun t22=>
 G0 t22 none H1 fun t23=>
 M3 .u64 t23 fun t24=>
 J0 .sub t24 (t3.getD 0 undef) fun t25=>
 J0 .sub t25 (t3.getD 1 undef) fun t26=>
 X3 a1 0 H1 fun t27=>
 M3 .u32 t26 fun t28=>
 W2 a0 t27 none 1 fun t29=>
 W3 t29 t28 1 H1 fun H3=>
 J0 .shr t26 (.int .u64 63) fun t30=>
 J0 .neq t30 (.int .u64 0) fun t31=>
 W1 t31 fun t32=>k t32 H3 nx1)) [(.int .u64 0),(.int .u64 0),(.int .i64 0)] H nx
theorem spec89 {a2:Value} (h:F89 a0 a1 a2 H nx k):J2 Tryd.prog 89 [a0,a1,a2] H nx k:=
 K2 mixed Z2 65 7 d89 [(.s 6,none)] (by kernel_rfl) (by kernel_rfl) (by simp) (by kernel_rfl) h
noncomputable def d90:D:=Y5 Tryd.prog 90 [] [[4,8]] []
noncomputable def F90 (a0 a1:Value) (H:Y0) (nx:Nat) (k:EP):Prop:=
 X3 a1 0 H fun t1=>
 B3 (fun t2 t3 H1 nx1=>
 J0 .lss (t3.getD 1 undef) t1 fun t4=>
 G2 t4 (
 E2 (nx1+14) fun nx2=>
 W2 a0 (t3.getD 1 undef) none 1 fun t5=>
 G0 t5 none H1 fun t6=>
 M3 .u64 t6 fun t7=>
 W2 a1 (t3.getD 1 undef) none 1 fun t8=>
 G0 t8 none H1 fun t9=>
 M3 .u64 t9 fun t10=>
 J0 .add t7 t10 fun t11=>
 J0 .add (t3.getD 0 undef) t11 fun t12=>
 (((((M3 .u64 t9 fun t16=>t16=t10)/\True)/\(((G0 t8 none H1 fun t15=>t15=t9)/\True)/\(((M3 .u64 t6 fun t14=>t14=t7)/\True)/\(((G0 t5 none H1 fun t13=>t13=t6)/\True)/\True)))))/\(
 M3 .u32 t12 fun t17=>
 W2 a0 (t3.getD 1 undef) none 1 fun t18=>
 W3 t18 t17 1 H1 fun H3=>
 J0 .shr t12 (.int .u64 32) fun t19=>
 J0 .add (t3.getD 1 undef) (.int .i64 1) fun t20=>
 t2 [t19,t20] H3 nx2))\/False) (
 X3 a1 0 H1 fun t21=>
 W2 a0 t21 none 1 fun t22=>
 G0 t22 none H1 fun t23=>
 M3 .u32 (t3.getD 0 undef) fun t24=>
 J0 .add t23 t24 fun t25=>
 W2 a0 t21 none 1 fun t26=>
 W3 t26 t25 1 H1 fun H4=>
 W1 (.tuple ⟨[]⟩) fun t27=>k t27 H4 nx1)) [(.int .u64 0),(.int .i64 0)] H nx
theorem spec90 (h:F90 a0 a1 H nx k):J2 Tryd.prog 90 [a0,a1] H nx k:=
 K2 mixed Z2 41 6 d90 [] (by kernel_rfl) (by kernel_rfl) (by simp) (by kernel_rfl) h
noncomputable def d67:D:=Y5 Tryd.prog 67 [(1,[0,2]),(4,[0,2])] [] []
noncomputable def F67 (a0:Value) (H:Y0) (nx:Nat) (k:EP):Prop:=
 B4 (fun t1=>
 J0 .geq a0 (.int .u32 65536) fun t3=>
 G2 t3 (
 J0 .shr a0 (.int .u64 16) fun t4=>
 t1 [t4,(.int .i64 16)] H nx) (
 t1 [a0,(.int .i64 0)] H nx)) (fun t2 H1 nx1=>
 B4 (fun t5=>
 J0 .geq (t2.getD 0 undef) (.int .u32 256) fun t7=>
 G2 t7 (
 J0 .shr (t2.getD 0 undef) (.int .u64 8) fun t8=>
 J0 .add (t2.getD 1 undef) (.int .i64 8) fun t9=>
 t5 [t8,t9] H1 nx1) (
 t5 [(t2.getD 0 undef),(t2.getD 1 undef)] H1 nx1)) (fun t6 H2 nx2=>
 M3 .u8 (t6.getD 0 undef) fun t10=>
 wVf .sidx [(.string ⟨#[0,1,2,2,3,3,3,3,4,4,4,4,4,4,4,4,5,5,5,5,5,5,5,5,5,5,5,5,5,5,5,5,6,6,6,6,6,6,6,6,6,6,6,6,6,6,6,6,6,6,6,6,6,6,6,6,6,6,6,6,6,6,6,6,7,7,7,7,7,7,7,7,7,7,7,7,7,7,7,7,7,7,7,7,7,7,7,7,7,7,7,7,7,7,7,7,7,7,7,7,7,7,7,7,7,7,7,7,7,7,7,7,7,7,7,7,7,7,7,7,7,7,7,7,7,7,7,7,8,8,8,8,8,8,8,8,8,8,8,8,8,8,8,8,8,8,8,8,8,8,8,8,8,8,8,8,8,8,8,8,8,8,8,8,8,8,8,8,8,8,8,8,8,8,8,8,8,8,8,8,8,8,8,8,8,8,8,8,8,8,8,8,8,8,8,8,8,8,8,8,8,8,8,8,8,8,8,8,8,8,8,8,8,8,8,8,8,8,8,8,8,8,8,8,8,8,8,8,8,8,8,8,8,8,8,8,8,8,8,8,8,8,8,8,8,8,8,8,8,8,8,8,8,8,8,8]⟩),t10] fun t11=>
 M3 .i64 t11 fun t12=>
 J0 .add (t6.getD 1 undef) t12 fun t13=>
 W1 t13 fun t14=>k t14 H2 nx2))
theorem spec67 (h:F67 a0 H nx k):J2 Tryd.prog 67 [a0] H nx k:=
 K2 mixed Z2 19 5 d67 [(.s 2,none)] (by kernel_rfl) (by kernel_rfl) (by simp) (by kernel_rfl) h
noncomputable def d86:D:=Y5 Tryd.prog 86 [] [] []
noncomputable def F86 (a0:Value) (H:Y0) (nx:Nat) (k:EP):Prop:=
 Z1 Tryd.prog 67 [a0] H nx fun t1 H1 nx1=>
 J0 .sub (.int .i64 32) t1 fun t2=>
 W1 t2 fun t3=>k t3 H1 nx1
theorem spec86 (h:F86 a0 H nx k):J2 Tryd.prog 86 [a0] H nx k:=
 K2 mixed Z2 6 3 d86 [(.s 2,none)] (by kernel_rfl) (by kernel_rfl) (by simp) (by kernel_rfl) h
noncomputable def d73:D:=Y5 Tryd.prog 73 [(13,[13])] [[11]] []
noncomputable def F73 (a0 a1:Value) (H:Y0) (nx:Nat) (k:EP):Prop:=
 X3 a1 0 H fun t1=>
 J0 .sub t1 (.int .i64 1) fun t2=>
 W2 a1 t2 none 1 fun t3=>
 G0 t3 none H fun t4=>
 Z1 Tryd.prog 86 [t4] H nx fun t5 H1 nx1=>
 M3 .u64 t5 fun t6=>
 Z1 Tryd.prog 87 [a1,t6] H1 nx1 fun t7 H2 nx2=>
 wSl t7 1 none (some t1) none H2 fun t8=>
 Z1 Tryd.prog 87 [a0,t6] H2 nx2 fun t9 H3 nx3=>
 X3 a0 0 H3 fun t10=>
 J0 .sub t10 t1 fun t11=>
 J0 .add t11 (.int .i64 1) fun t12=>
 K21 t12 t12 [.int .u32 0] fun t13 t15 t16=>D2 (.cells t13 0) (.slice t15 t16) H3 nx3 fun t14 H4 nx4=>
 X3 a0 0 H4 fun t17=>
 J0 .sub t17 t1 fun t18=>
 B3 (fun t19 t20 H5 nx5=>
 J0 .geq (t20.getD 0 undef) (.int .i64 0) fun t21=>
 G2 t21 (
 J0 .add (t20.getD 0 undef) t1 fun t22=>
 J0 .add t22 (.int .i64 1) fun t23=>
 wSl t9 1 (some (t20.getD 0 undef)) (some t23) none H5 fun t24=>
 Z1 Tryd.prog 88 [t24,t8] H5 nx5 fun t25 H6 nx6=>
 B4 (fun t26=>
 Z1 Tryd.prog 89 [t24,t8,t25] H6 nx6 fun t28 H8 nx8=>
 G2 t28 (
 J0 .sub t25 (.int .u64 1) fun t29=>
 Z1 Tryd.prog 90 [t24,t8] H8 nx8 fun t30 H9 nx9=>
 t26 [t29] H9 nx9) (
 t26 [t25] H8 nx8)) (fun t27 H7 nx7=>
 M3 .u32 (t27.getD 0 undef) fun t31=>
 W2 t14 (t20.getD 0 undef) none 1 fun t32=>
 W3 t32 t31 1 H7 fun H10=>
 J0 .sub (t20.getD 0 undef) (.int .i64 1) fun t33=>
 t19 [t33] H10 nx7)) (
 wSl t9 1 none (some t1) none H5 fun t34=>
 Z1 Tryd.prog 91 [t34,t6] H5 nx5 fun t35 H11 nx11=>
 W1 (.tuple ⟨[t14,t35]⟩) fun t36=>k t36 H11 nx11)) [t18] H4 nx4
theorem spec73 (h:F73 a0 a1 H nx k):J2 Tryd.prog 73 [a0,a1] H nx k:=
 K2 mixed Z2 75 7 d73 [(.s 4,none),(.s 5,none)] (by kernel_rfl) (by kernel_rfl) (by simp) (by kernel_rfl) h
noncomputable def d59:D:=Y5 Tryd.prog 59 [] [] []
noncomputable def F59 (a0 a1:Value) (H:Y0) (nx:Nat) (k:EP):Prop:=
 Z1 Tryd.prog 54 [a0] H nx fun t1 H1 nx1=>
 Z1 Tryd.prog 54 [a1] H1 nx1 fun t2 H2 nx2=>
 X3 t2 0 H2 fun t3=>
 J0 .eql t3 (.int .i64 0) fun t4=>
 G2 t4 (
 W1 (.tuple ⟨[(.slice none 0 0),(.slice none 0 0),(.int .i64 18)]⟩) fun t5=>k t5 H2 nx2) (
 Z1 Tryd.prog 33 [t1,t2] H2 nx2 fun t6 H3 nx3=>
 J0 .lss t6 (.int .i64 0) fun t7=>
 G2 t7 (
 Z1 Tryd.prog 69 [t1] H3 nx3 fun t8 H4 nx4=>
 W1 (.tuple ⟨[(.slice none 0 0),t8,(.int .i64 0)]⟩) fun t9=>k t9 H4 nx4) (
 X3 t2 0 H3 fun t10=>
 J0 .eql t10 (.int .i64 1) fun t11=>
 G2 t11 (
 Z1 Tryd.prog 69 [t1] H3 nx3 fun t12 H5 nx5=>
 W2 t2 (.int .i64 0) none 1 fun t13=>
 G0 t13 none H5 fun t14=>
 Z1 Tryd.prog 72 [t12,t14] H5 nx5 fun t15 H6 nx6=>
 Z1 Tryd.prog 54 [t12] H6 nx6 fun t16 H7 nx7=>
 M3 .u64 t15 fun t17=>
 Z1 Tryd.prog 56 [t17] H7 nx7 fun t18 H8 nx8=>
 W1 (.tuple ⟨[t16,t18,(.int .i64 0)]⟩) fun t19=>k t19 H8 nx8) (
 Z1 Tryd.prog 73 [t1,t2] H3 nx3 fun t20 H9 nx9=>
 J5 t20 0 fun t21=>
 J5 t20 1 fun t22=>
 Z1 Tryd.prog 54 [t21] H9 nx9 fun t23 H10 nx10=>
 Z1 Tryd.prog 54 [t22] H10 nx10 fun t24 H11 nx11=>
 W1 (.tuple ⟨[t23,t24,(.int .i64 0)]⟩) fun t25=>k t25 H11 nx11)))
theorem spec59 (h:F59 a0 a1 H nx k):J2 Tryd.prog 59 [a0,a1] H nx k:=
 K2 mixed Z2 49 6 d59 [(.s 4,none),(.s 5,none),(.s 6,none)] (by kernel_rfl) (by kernel_rfl) (by simp) (by kernel_rfl) h
noncomputable def d52:D:=Y5 Tryd.prog 52 [] [] []
noncomputable def F52 (a0:Value) (H:Y0) (nx:Nat) (k:EP):Prop:=
 Z1 Tryd.prog 54 [a0] H nx fun t1 H1 nx1=>
 X3 t1 0 H1 fun t2=>
 J0 .eql t2 (.int .i64 0) fun t3=>
 G2 t3 (
 W1 (.int .i64 0) fun t4=>k t4 H1 nx1) (
 X3 t1 0 H1 fun t5=>
 J0 .sub t5 (.int .i64 1) fun t6=>
 J0 .mul (.int .i64 32) t6 fun t7=>
 X3 t1 0 H1 fun t8=>
 J0 .sub t8 (.int .i64 1) fun t9=>
 W2 t1 t9 none 1 fun t10=>
 G0 t10 none H1 fun t11=>
 Z1 Tryd.prog 67 [t11] H1 nx1 fun t12 H2 nx2=>
 J0 .add t7 t12 fun t13=>
 W1 t13 fun t14=>k t14 H2 nx2)
theorem spec52 (h:F52 a0 H nx k):J2 Tryd.prog 52 [a0] H nx k:=
 K2 mixed Z2 20 5 d52 [(.s 2,none)] (by kernel_rfl) (by kernel_rfl) (by simp) (by kernel_rfl) h
noncomputable def d71:D:=Y5 Tryd.prog 71 [] [[4,13]] []
noncomputable def F71 (a0:Value) (H:Y0) (nx:Nat) (k:EP):Prop:=
 Z1 Tryd.prog 54 [a0] H nx fun t1 H1 nx1=>
 X3 t1 0 H1 fun t2=>
 J0 .gtr t2 (.int .i64 2) fun t3=>
 G2 t3 (
 W1 (.tuple ⟨[(.int .u64 0),(.bool false)]⟩) fun t4=>k t4 H1 nx1) (
 X3 t1 0 H1 fun t5=>
 B3 (fun t6 t7 H2 nx2=>
 J0 .lss (t7.getD 1 undef) t5 fun t8=>
 G2 t8 (
 W2 t1 (t7.getD 1 undef) none 1 fun t9=>
 G0 t9 none H2 fun t10=>
 M3 .u64 t10 fun t11=>
 J0 .mul (.int .i64 32) (t7.getD 1 undef) fun t12=>
 J0 .shl t11 t12 fun t13=>
 J0 .or (t7.getD 0 undef) t13 fun t14=>
 J0 .add (t7.getD 1 undef) (.int .i64 1) fun t15=>
 t6 [t14,t15] H2 nx2) (
 W1 (.tuple ⟨[(t7.getD 0 undef),(.bool true)]⟩) fun t16=>k t16 H2 nx2)) [(.int .u64 0),(.int .i64 0)] H1 nx1)
theorem spec71 (h:F71 a0 H nx k):J2 Tryd.prog 71 [a0] H nx k:=
 K2 mixed Z2 28 5 d71 [(.s 2,none),(.s 3,none)] (by kernel_rfl) (by kernel_rfl) (by simp) (by kernel_rfl) h
end Go.Proofs.YtpiobdofbhkmjaaDoor
