/-
  MADE BY PROGRAM (wip/gen/gen.py): functions 46 as marked code,and their claims written out.
  MADE BY PROGRAM (wip/gen/gen.py): functions 84 as marked code,and their claims written out.
  MADE BY PROGRAM (wip/gen/gen.py): functions 8 45 20 5 18 40 41 19 15 14 16 4 as marked code,and their claims written out.
-/
import Derived.Test.YtpiobdofbhkmjaaDoorL20
import Derived.KernelRfl
set_option linter.unusedSimpArgs false
set_option linter.unusedVariables false
set_option linter.unusedSectionVars false
namespace Go.Proofs.YtpiobdofbhkmjaaDoor
open Go.Clo
set_option maxRecDepth 100000
noncomputable def d46:D:=Y5 Tryd.prog 46 [(11,[])] [[10],[16]] []
noncomputable def F46 (a0:Value) (H:Y0) (nx:Nat) (k:EP):Prop:=
 R5 a0 fun t1=>D2 (.cells t1 0) .ptr H nx fun t2 H1 nx1=>
 D2 (.cells [.int .u32 0,.int .u32 0,.int .u32 0,.int .u32 0,.int .u32 0,.int .u32 0,.int .u32 0,.int .u32 0,.int .u32 0,.int .u32 0,.int .u32 0,.int .u32 0,.int .u32 0,.int .u32 0,.int .u32 0,.int .u32 0,.int .u32 0,.int .u32 0,.int .u32 0,.int .u32 0,.int .u32 0,.int .u32 0,.int .u32 0,.int .u32 0,.int .u32 0,.int .u32 0,.int .u32 0,.int .u32 0,.int .u32 0,.int .u32 0,.int .u32 0,.int .u32 0] 0) .ptr H1 nx1 fun t3 H2 nx2=>
 D2 (.cells [.int .u32 0,.int .u32 0,.int .u32 0,.int .u32 0,.int .u32 0,.int .u32 0,.int .u32 0,.int .u32 0,.int .u32 0,.int .u32 0,.int .u32 0,.int .u32 0,.int .u32 0,.int .u32 0,.int .u32 0,.int .u32 0,.int .u32 0,.int .u32 0,.int .u32 0,.int .u32 0,.int .u32 0,.int .u32 0,.int .u32 0,.int .u32 0,.int .u32 0,.int .u32 0,.int .u32 0,.int .u32 0,.int .u32 0,.int .u32 0,.int .u32 0,.int .u32 0] 0) .ptr H2 nx2 fun t4 H3 nx3=>
 D1 t2 1 fun t5=>
 G0 t5 none H3 fun t6=>
 X3 t6 0 H3 fun t7=>
 B3 (fun t8 t9 H4 nx4=>
 J0 .lss (t9.getD 0 undef) t7 fun t10=>
 G2 t10 (
 W2 t6 (t9.getD 0 undef) none 1 fun t11=>
 G0 t11 none H4 fun t12=>
 D1 t2 0 fun t13=>
 G0 t13 none H4 fun t14=>
 B3 (fun t15 t16 H5 nx5=>
 J0 .lss (t16.getD 0 undef) t14 fun t17=>
 G2 t17 (
 B4 (fun t18=>
 J0 .shr t12 (t16.getD 0 undef) fun t20=>
 J0 .and t20 (.int .u32 1) fun t21=>
 J0 .eql t21 (.int .u32 1) fun t22=>
 G2 t22 (
 E2 (nx5+10) fun nx7=>
 W2 t4 (t16.getD 0 undef) (some 32) 1 fun t23=>
 G0 t23 none H5 fun t24=>
 J0 .shl (.int .u32 1) (t16.getD 0 undef) fun t25=>
 J0 .andNot t12 t25 fun t26=>
 J0 .or t24 t26 fun t27=>
 W2 t4 (t16.getD 0 undef) (some 32) 1 fun t28=>
 W3 t28 t27 1 H5 fun H8=>
 (((((True)/\((G0 t23 none H5 fun t29=>t29=t24)/\True))/\True))/\(
 t18 [] H8 nx7))\/False) (
 t18 [] H5 nx5)) (fun t19 H6 nx6=>
 J0 .add (t16.getD 0 undef) (.int .i64 1) fun t30=>
 t15 [t30] H6 nx6)) (
 J0 .add (t9.getD 0 undef) (.int .i64 1) fun t31=>
 t8 [t31] H5 nx5)) [(.int .i64 0)] H4 nx4) (
 G0 t4 (some 32) H4 fun t32=>
 W3 t3 t32 32 H4 fun H9=>
 G0 t3 (some 32) H9 fun t33=>
 W1 t33 fun t34=>k t34 H9 nx4)) [(.int .i64 0)] H3 nx3
theorem spec46 {a0:Value} {H:Y0} {nx:Nat} {k:EP} (h:F46 a0 H nx k):J2 Tryd.prog 46 [a0] H nx k:=
 K2 mixed Z2 36 6 d46 [(.s 2,some (some 32))] (by kernel_rfl) (by kernel_rfl) (by simp) (by kernel_rfl) h
end Go.Proofs.YtpiobdofbhkmjaaDoor

namespace Go.Proofs.YtpiobdofbhkmjaaDoor
open Go.Clo
set_option maxRecDepth 100000
noncomputable def d84:D:=Y5 Tryd.prog 84 [] [[8]] []
noncomputable def F84 (a0 a1:Value) (H:Y0) (nx:Nat) (k:EP):Prop:=
 X3 a0 0 H fun t1=>
 B3 (fun t2 t3 H1 nx1=>
 J0 .lss (t3.getD 0 undef) t1 fun t4=>
 G2 t4 (
 W2 a0 (t3.getD 0 undef) none 1 fun t5=>
 G0 t5 none H1 fun t6=>
 E22 Tryd.prog a1 [t6] H1 nx1 fun t7 H2 nx2=>
 G2 t7 (
 W1 (t3.getD 0 undef) fun t8=>k t8 H2 nx2) (
 J0 .add (t3.getD 0 undef) (.int .i64 1) fun t9=>
 t2 [t9] H2 nx2)) (
 W1 (.int .i64 (-1)) fun t10=>k t10 H1 nx1)) [(.int .i64 0)] H nx
theorem spec84 {a0 a1:Value} {H:Y0} {nx:Nat} {k:EP} (h:F84 a0 a1 H nx k):J2 Tryd.prog 84 [a0,a1] H nx k:=
 K2 mixed Z2 19 5 d84 [(.s 4,none)] (by kernel_rfl) (by kernel_rfl) (by simp) (by kernel_rfl) h
end Go.Proofs.YtpiobdofbhkmjaaDoor

namespace Go.Proofs.YtpiobdofbhkmjaaDoor
open Go.Clo
set_option maxRecDepth 100000
variable {H:Y0} {a0 a1 a2:Value} {k:EP} {nx:Nat}
noncomputable def d8:D:=Y5 Tryd.prog 8 [] [] []
noncomputable def F8 (a0:Value) (H:Y0) (nx:Nat) (k:EP):Prop:=
 R5 a0 fun t1=>D2 (.cells t1 0) .ptr H nx fun t2 H1 nx1=>
 D2 (.cells [.int .i64 0,.slice none 0 0] 0) .ptr H1 nx1 fun t3 H2 nx2=>
 D1 t2 0 fun t4=>
 G0 t4 none H2 fun t5=>
 D1 t2 1 fun t6=>
 G0 t6 none H2 fun t7=>
 M4 [.int .i64 0,.slice none 0 0] [(0,1),(1,1)] [(0,t5),(1,t7)] fun t8=>
 W3 t3 t8 2 H2 fun H3=>
 G0 t3 (some 2) H3 fun t9=>
 W1 t9 fun t10=>k t10 H3 nx2
theorem spec8 (h:F8 a0 H nx k):J2 Tryd.prog 8 [a0] H nx k:=
 K2 mixed Z2 8 4 d8 [(.s 2,some (some 2))] (by kernel_rfl) (by kernel_rfl) (by simp) (by kernel_rfl) h
noncomputable def d45:D:=Y5 Tryd.prog 45 [] [] []
noncomputable def F45 (a0 a1:Value) (H:Y0) (nx:Nat) (k:EP):Prop:=
 J0 .shr a0 a1 fun t1=>
 J0 .rem t1 (.int .u32 2) fun t2=>
 J0 .eql t2 (.int .u32 1) fun t3=>
 W1 t3 fun t4=>k t4 H nx
theorem spec45 (h:F45 a0 a1 H nx k):J2 Tryd.prog 45 [a0,a1] H nx k:=
 K2 mixed Z2 10 4 d45 [(.s 4,none)] (by kernel_rfl) (by kernel_rfl) (by simp) (by kernel_rfl) h
noncomputable def d20:D:=Y5 Tryd.prog 20 [(2,[12])] [[3],[4]] [.one (.tst (.one .nil) (.one .nil))]
noncomputable def F20 (a0:Value) (H:Y0) (nx:Nat) (k:EP):Prop:=
 R5 a0 fun t1=>D2 (.cells t1 0) .ptr H nx fun t2 H1 nx1=>
 B4 (fun t3=>
 D1 t2 0 fun t5=>
 G0 t5 none H1 fun t6=>
 J0 .lss t6 (.int .i64 0) fun t7=>
 J4 false t7 (
 D1 t2 0 fun t8=>
 G0 t8 none H1 fun t9=>
 J0 .gtr t9 (.int .i64 32) fun t10=>
 t3 [t10] H1 nx1) (
 t3 [(.bool true)] H1 nx1)) (fun t4 H2 nx2=>
 G2 (t4.getD 0 undef) (
 W1 (.int .i64 3) fun t11=>k t11 H2 nx2) (
 D1 t2 1 fun t12=>
 G0 t12 none H2 fun t13=>
 X3 t13 0 H2 fun t14=>
 J0 .gtr t14 (.int .i64 64) fun t15=>
 G2 t15 (
 W1 (.int .i64 12) fun t16=>k t16 H2 nx2) (
 B3 (fun t17 t18 H3 nx3=>
 D1 t2 1 fun t19=>
 G0 t19 none H3 fun t20=>
 X3 t20 0 H3 fun t21=>
 J0 .lss (t18.getD 0 undef) t21 fun t22=>
 G2 t22 (
 D1 t2 0 fun t23=>
 G0 t23 none H3 fun t24=>
 B3 (fun t25 t26 H4 nx4=>
 J0 .lss (t26.getD 0 undef) (.int .i64 32) fun t27=>
 G2 t27 (
 D1 t2 1 fun t28=>
 G0 t28 none H4 fun t29=>
 W2 t29 (t18.getD 0 undef) none 1 fun t30=>
 G0 t30 none H4 fun t31=>
 Z1 Tryd.prog 45 [t31,(t26.getD 0 undef)] H4 nx4 fun t32 H5 nx5=>
 G2 t32 (
 W1 (.int .i64 1) fun t33=>k t33 H5 nx5) (
 J0 .add (t26.getD 0 undef) (.int .i64 1) fun t34=>
 t25 [t34] H5 nx5)) (
 J0 .add (t18.getD 0 undef) (.int .i64 1) fun t35=>
 t17 [t35] H4 nx4)) [t24] H3 nx3) (
 W1 (.int .i64 0) fun t36=>k t36 H3 nx3)) [(.int .i64 0)] H2 nx2)))
theorem spec20 (h:F20 a0 H nx k):J2 Tryd.prog 20 [a0] H nx k:=
 K2 mixed Z2 37 6 d20 [(.s 2,none)] (by kernel_rfl) (by kernel_rfl) (by simp) (by kernel_rfl) h
noncomputable def d5:D:=Y5 Tryd.prog 5 [] [] [.one (.tst (.one (.tst (.one (.tst (.one .nil) (.one .nil))) (.one (.one (.one .nil))))) (.one (.one (.one (.one (.one .nil))))))]
noncomputable def F5 (a0:Value) (H:Y0) (nx:Nat) (k:EP):Prop:=
 R5 a0 fun t1=>D2 (.cells t1 0) .ptr H nx fun t2 H1 nx1=>
 D1 t2 0 fun t3=>
 G0 t3 none H1 fun t4=>
 J0 .geq t4 (.int .i64 0) fun t5=>
 J4 true t5 (
 D1 t2 0 fun t6=>
 G0 t6 none H1 fun t7=>
 J0 .leq t7 (.int .i64 6) fun t8=>
 J4 true t8 (
 D1 t2 1 fun t9=>
 G0 t9 none H1 fun t10=>
 X3 t10 0 H1 fun t11=>
 J0 .leq t11 (.int .i64 8) fun t12=>
 J4 true t12 (
 G0 t2 (some 2) H1 fun t13=>
 Z1 Tryd.prog 8 [t13] H1 nx1 fun t14 H2 nx2=>
 Z1 Tryd.prog 20 [t14] H2 nx2 fun t15 H3 nx3=>
 J0 .eql t15 (.int .i64 0) fun t16=>
 W1 t16 fun t17=>k t17 H3 nx3) (
 W1 (.bool false) fun t18=>k t18 H1 nx1)) (
 W1 (.bool false) fun t19=>k t19 H1 nx1)) (
 W1 (.bool false) fun t20=>k t20 H1 nx1)
theorem spec5 (h:F5 a0 H nx k):J2 Tryd.prog 5 [a0] H nx k:=
 K2 mixed Z2 23 5 d5 [(.s 2,none)] (by kernel_rfl) (by kernel_rfl) (by simp) (by kernel_rfl) h
noncomputable def d18:D:=Y5 Tryd.prog 18 [(20,[])] [[9,29]] []
noncomputable def F18 (a0 a1:Value) (H:Y0) (nx:Nat) (k:EP):Prop:=
 R5 a0 fun t1=>D2 (.cells t1 0) .ptr H nx fun t2 H1 nx1=>
 D2 (.cells [.bool false,.slice none 0 0,.slice none 0 0] 0) .ptr H1 nx1 fun t3 H2 nx2=>
 G0 t2 (some 2) H2 fun t4=>
 Z1 Tryd.prog 42 [t4] H2 nx2 fun t5 H3 nx3=>
 J0 .neq t5 (.int .i64 0) fun t6=>
 G2 t6 (
 M4 [.bool false,.slice none 0 0,.slice none 0 0] [(0,1),(1,1),(2,1)] [] fun t7=>
 W3 t3 t7 3 H3 fun H4=>
 G0 t3 (some 3) H4 fun t8=>
 W1 (.tuple ⟨[t8,(.slice none 0 0),t5]⟩) fun t9=>k t9 H4 nx3) (
 X3 a1 0 H3 fun t10=>
 D1 t2 0 fun t11=>
 G0 t11 none H3 fun t12=>
 J0 .neq t10 t12 fun t13=>
 G2 t13 (
 M4 [.bool false,.slice none 0 0,.slice none 0 0] [(0,1),(1,1),(2,1)] [] fun t14=>
 W3 t3 t14 3 H3 fun H5=>
 G0 t3 (some 3) H5 fun t15=>
 W1 (.tuple ⟨[t15,(.slice none 0 0),(.int .i64 6)]⟩) fun t16=>k t16 H5 nx3) (
 Z1 Tryd.prog 10 [(.int .i64 0)] H3 nx3 fun t17 H6 nx6=>
 D2 (.cells [.bool false,.slice none 0 0,.slice none 0 0] 0) .ptr H6 nx6 fun t18 H7 nx7=>
 W3 t18 t17 3 H7 fun H8=>
 X3 a1 0 H8 fun t19=>
 B3 (fun t20 t21 H9 nx9=>
 J0 .lss (t21.getD 1 undef) t19 fun t22=>
 G2 t22 (
 W2 a1 (t21.getD 1 undef) none 3 fun t23=>
 G0 t23 (some 3) H9 fun t24=>
 D2 (.cells [.int .i64 0,.int .u32 0,.int .i64 0] 0) .ptr H9 nx9 fun t25 H10 nx10=>
 W3 t25 t24 3 H10 fun H11=>
 E2 (nx10+10) fun nx12=>
 G0 t2 (some 2) H11 fun t26=>
 G0 t25 (some 3) H11 fun t27=>
 Z1 Tryd.prog 44 [t27] H11 nx12 fun t28 H13 nx13=>
 Z1 Tryd.prog 43 [t26,t28] H13 nx13 fun t29 H14 nx14=>
 J5 t29 0 fun t30=>
 J5 t29 1 fun t31=>
 wNm nx10 7 .ptr fun t32=>
 hsK H14 (nx10+7) (some (.cells [.slice none 0 0,.slice none 0 0,.bool false,.slice none 0 0,.slice none 0 0] 0)) fun H15=>W3 t32 t30 5 H15 fun H16=>
 (((((True)/\((True)/\((True)/\((G0 t25 (some 3) H11 fun t36=>t36=t27)/\True))))/\(((True)/\((True)/\((G0 t2 (some 2) H13 fun t34=>t34=t26)/\((G0 t2 (some 2) H11 fun t35=>t35=t26)/\True))))/\True)))/\(
 J0 .neq t31 (.int .i64 0) fun t37=>
 G2 t37 (
 M4 [.bool false,.slice none 0 0,.slice none 0 0] [(0,1),(1,1),(2,1)] [] fun t38=>
 W3 t3 t38 3 H16 fun H17=>
 G0 t3 (some 3) H17 fun t39=>
 W1 (.tuple ⟨[t39,(.slice none 0 0),t31]⟩) fun t40=>k t40 H17 nx14) (
 B4 (fun t41=>
 D1 t32 2 fun t43=>
 G0 t43 (some 3) H16 fun t44=>
 G0 t18 (some 3) H16 fun t45=>
 Z1 Tryd.prog 9 [t44,t45] H16 nx14 fun t46 H19 nx19=>
 J0 .gtr t46 (.int .i64 0) fun t47=>
 G2 t47 (
 D1 t32 2 fun t48=>
 G0 t48 (some 3) H19 fun t49=>
 Z1 Tryd.prog 36 [t49] H19 nx19 fun t50 H20 nx20=>
 W3 t18 t50 3 H20 fun H21=>
 t41 [] H21 nx20) (
 t41 [] H19 nx19)) (fun t42 H18 nx18=>
 G0 t32 (some 5) H18 fun t51=>
 G7 1 5 [.slice none 0 0,.slice none 0 0,.bool false,.slice none 0 0,.slice none 0 0] [(0,t51)] fun t52=>D2 (.cells t52 0) (.slice 1 1) H18 nx18 fun t53 H22 nx22=>
 U7 (t21.getD 0 undef) t53 5 104 H22 nx22 fun t54 H23 nx23=>
 J0 .add (t21.getD 1 undef) (.int .i64 1) fun t55=>
 t20 [t54,t55] H23 nx23))))\/False) (
 G0 t18 (some 3) H9 fun t56=>
 W3 t3 t56 3 H9 fun H24=>
 G0 t3 (some 3) H24 fun t57=>
 W1 (.tuple ⟨[t57,(t21.getD 0 undef),(.int .i64 0)]⟩) fun t58=>k t58 H24 nx9)) [(.slice none 0 0),(.int .i64 0)] H8 nx7))
theorem spec18 (h:F18 a0 a1 H nx k):J2 Tryd.prog 18 [a0,a1] H nx k:=
 K2 mixed Z2 59 6 d18 [(.s 4,some (some 3)),(.s 5,none),(.s 6,none)] (by kernel_rfl) (by kernel_rfl) (by simp) (by kernel_rfl) h
noncomputable def d40:D:=Y5 Tryd.prog 40 [] [] []
noncomputable def F40 (a0:Value) (H:Y0) (nx:Nat) (k:EP):Prop:=
 wVf (.eqn false (.slice 3)) [a0,(.slice none 0 0)] fun t1=>
 G2 t1 (
 W1 (.slice none 0 0) fun t2=>k t2 H nx) (
 G7 0 1 [.int .i64 0] [] fun t3=>D2 (.cells t3 0) (.slice 0 0) H nx fun t4 H1 nx1=>
 U7 t4 a0 1 8 H1 nx1 fun t5 H2 nx2=>
 W1 t5 fun t6=>k t6 H2 nx2)
theorem spec40 (h:F40 a0 H nx k):J2 Tryd.prog 40 [a0] H nx k:=
 K2 mixed Z2 8 4 d40 [(.s 2,none)] (by kernel_rfl) (by kernel_rfl) (by simp) (by kernel_rfl) h
noncomputable def d19:D:=Y5 Tryd.prog 19 [] [[13]] []
noncomputable def F19 (a0 a1:Value) (H:Y0) (nx:Nat) (k:EP):Prop:=
 X3 a0 0 H fun t1=>
 X3 a1 0 H fun t2=>
 J0 .neq t1 t2 fun t3=>
 G2 t3 (
 W1 (.bool false) fun t4=>k t4 H nx) (
 X3 a0 0 H fun t5=>
 B3 (fun t6 t7 H1 nx1=>
 J0 .lss (t7.getD 0 undef) t5 fun t8=>
 G2 t8 (
 E2 (nx1+9) fun nx2=>
 W2 a0 (t7.getD 0 undef) none 1 fun t9=>
 G0 t9 none H1 fun t10=>
 W2 a1 (t7.getD 0 undef) none 1 fun t11=>
 G0 t11 none H1 fun t12=>
 J0 .neq t10 t12 fun t13=>
 (((((G0 t11 none H1 fun t15=>t15=t12)/\True)/\(((G0 t9 none H1 fun t14=>t14=t10)/\True)/\True)))/\(
 G2 t13 (
 W1 (.bool false) fun t16=>k t16 H1 nx2) (
 J0 .add (t7.getD 0 undef) (.int .i64 1) fun t17=>
 t6 [t17] H1 nx2)))\/False) (
 W1 (.bool true) fun t18=>k t18 H1 nx1)) [(.int .i64 0)] H nx)
theorem spec19 (h:F19 a0 a1 H nx k):J2 Tryd.prog 19 [a0,a1] H nx k:=
 K2 mixed Z2 26 5 d19 [(.s 4,none)] (by kernel_rfl) (by kernel_rfl) (by simp) (by kernel_rfl) h
noncomputable def d15:D:=Y5 Tryd.prog 15 [(11,[])] [[7,8],[25]] []
noncomputable def F15 (a0 a1 a2:Value) (H:Y0) (nx:Nat) (k:EP):Prop:=
 B3 (fun t1 t2 H1 nx1=>
 J0 .lss (t2.getD 1 undef) a1 fun t3=>
 G2 t3 (
 G7 1 1 [.int .i64 0] [(0,(t2.getD 1 undef))] fun t4=>D2 (.cells t4 0) (.slice 1 1) H1 nx1 fun t5 H2 nx2=>
 U7 (t2.getD 0 undef) t5 1 8 H2 nx2 fun t6 H3 nx3=>
 J0 .add (t2.getD 1 undef) (.int .i64 1) fun t7=>
 t1 [t6,t7] H3 nx3) (
 X3 a2 0 H1 fun t8=>
 B3 (fun t9 t10 H4 nx4=>
 J0 .lss (t10.getD 0 undef) t8 fun t11=>
 G2 t11 (
 B4 (fun t12=>
 W2 a2 (t10.getD 0 undef) none 1 fun t14=>
 G0 t14 none H4 fun t15=>
 X3 (t2.getD 0 undef) 0 H4 fun t16=>
 J0 .gtr t16 (.int .i64 0) fun t17=>
 G2 t17 (
 E2 (nx4+11) fun nx6=>
 X3 (t2.getD 0 undef) 0 H4 fun t18=>
 J0 .rem (t10.getD 0 undef) t18 fun t19=>
 M3 .i64 t15 fun t20=>
 X3 (t2.getD 0 undef) 0 H4 fun t21=>
 J0 .rem t20 t21 fun t22=>
 (((((X3 (t2.getD 0 undef) 0 H4 fun t25=>t25=t21)/\True)/\(((M3 .i64 t15 fun t24=>t24=t20)/\True)/\(((X3 (t2.getD 0 undef) 0 H4 fun t23=>t23=t18)/\True)/\True))))/\(
 E2 (nx6+16) fun nx7=>
 W2 (t2.getD 0 undef) t22 none 1 fun t26=>
 G0 t26 none H4 fun t27=>
 W2 (t2.getD 0 undef) t19 none 1 fun t28=>
 G0 t28 none H4 fun t29=>
 W2 (t2.getD 0 undef) t19 none 1 fun t30=>
 W3 t30 t27 1 H4 fun H8=>
 W2 (t2.getD 0 undef) t22 none 1 fun t31=>
 W3 t31 t29 1 H8 fun H9=>
 (((((True)/\((True)/\((G0 t28 none H4 fun t33=>t33=t29)/\True)))/\(((True)/\((True)/\((G0 t26 none H4 fun t32=>t32=t27)/\True)))/\True)))/\(
 t12 [] H9 nx7))\/False))\/False) (
 t12 [] H4 nx4)) (fun t13 H5 nx5=>
 J0 .add (t10.getD 0 undef) (.int .i64 1) fun t34=>
 t9 [t34] H5 nx5)) (
 W1 (t2.getD 0 undef) fun t35=>k t35 H4 nx4)) [(.int .i64 0)] H1 nx1)) [(.slice none 0 0),a0] H nx
theorem spec15 (h:F15 a0 a1 a2 H nx k):J2 Tryd.prog 15 [a0,a1,a2] H nx k:=
 K2 mixed Z2 58 6 d15 [(.s 6,none)] (by kernel_rfl) (by kernel_rfl) (by simp) (by kernel_rfl) h
noncomputable def d14:D:=Y5 Tryd.prog 14 [] [[16]] []
noncomputable def F14 (a0 a1 a2:Value) (H:Y0) (nx:Nat) (k:EP):Prop:=
 X3 a1 0 H fun t1=>
 J0 .eql t1 (.int .i64 0) fun t2=>
 G2 t2 (
 E22 Tryd.prog a2 [a0] H nx fun t3 H1 nx1=>
 W1 (.tuple ⟨[]⟩) fun t4=>k t4 H1 nx1) (
 X3 a1 0 H fun t5=>
 B3 (fun t6 t7 H2 nx2=>
 J0 .lss (t7.getD 0 undef) t5 fun t8=>
 G2 t8 (
 W2 a1 (t7.getD 0 undef) none 1 fun t9=>
 G0 t9 none H2 fun t10=>
 Z1 Tryd.prog 40 [a0] H2 nx2 fun t11 H3 nx3=>
 G7 1 1 [.int .i64 0] [(0,t10)] fun t12=>D2 (.cells t12 0) (.slice 1 1) H3 nx3 fun t13 H4 nx4=>
 U7 t11 t13 1 8 H4 nx4 fun t14 H5 nx5=>
 Z1 Tryd.prog 40 [a1] H5 nx5 fun t15 H6 nx6=>
 J0 .add (t7.getD 0 undef) (.int .i64 1) fun t16=>
 Z1 Tryd.prog 41 [t15,(t7.getD 0 undef),t16] H6 nx6 fun t17 H7 nx7=>
 Z1 Tryd.prog 14 [t14,t17,a2] H7 nx7 fun t18 H8 nx8=>
 J0 .add (t7.getD 0 undef) (.int .i64 1) fun t19=>
 t6 [t19] H8 nx8) (
 W1 (.tuple ⟨[]⟩) fun t20=>k t20 H2 nx2)) [(.int .i64 0)] H nx)
theorem spec14 (h:F14 a0 a1 a2 H nx k):J2 Tryd.prog 14 [a0,a1,a2] H nx k:=
 K2 mixed Z2 35 6 d14 [] (by kernel_rfl) (by kernel_rfl) (by simp) (by kernel_rfl) h
noncomputable def d16:D:=Y5 Tryd.prog 16 [(2,[])] [] [.one (.tst (.one (.tst (.one .nil) (.one .nil))) (.one (.one (.one .nil))))]
noncomputable def F16 (a0 a1 a2 a3 a4 a5:Value) (H:Y0) (nx:Nat) (k:EP):Prop:=
 G0 a1 (some 2) H fun t1=>
 G0 a2 none H fun t2=>
 Z1 Tryd.prog 17 [t1,t2,a0] H nx fun t3 H1 nx1=>
 J5 t3 0 fun t4=>
 J5 t3 1 fun t5=>
 G0 a1 (some 2) H1 fun t6=>
 Z1 Tryd.prog 18 [t6,t4] H1 nx1 fun t7 H2 nx2=>
 J5 t7 0 fun t8=>
 J5 t7 1 fun t9=>
 J5 t7 2 fun t10=>
 D2 (.cells [.bool false,.slice none 0 0,.slice none 0 0] 0) .ptr H2 nx2 fun t11 H3 nx3=>
 W3 t11 t8 3 H3 fun H4=>
 B4 (fun t12=>
 G0 a3 none H4 fun t14=>
 J4 true t14 (
 J0 .eql t5 (.int .i64 0) fun t15=>
 J4 true t15 (
 J0 .eql t10 (.int .i64 0) fun t16=>
 W3 a3 t16 1 H4 fun H6=>
 t12 [] H6 nx3) (
 W3 a3 (.bool false) 1 H4 fun H7=>
 t12 [] H7 nx3)) (
 W3 a3 (.bool false) 1 H4 fun H8=>
 t12 [] H8 nx3)) (fun t13 H5 nx5=>
 G0 t11 (some 3) H5 fun t17=>
 G0 a4 (some 3) H5 fun t18=>
 Z1 Tryd.prog 9 [t17,t18] H5 nx5 fun t19 H9 nx9=>
 J0 .lss t19 (.int .i64 0) fun t20=>
 G2 t20 (
 E2 (nx9+4) fun nx10=>
 G0 t11 (some 3) H9 fun t21=>
 W3 a5 a0 1 H9 fun H11=>
 W3 a4 t21 3 H11 fun H12=>
 (((((True)/\((G0 t11 (some 3) H11 fun t22=>t22=t21)/\((G0 t11 (some 3) H9 fun t23=>t23=t21)/\True)))/\True))/\(
 W1 (.tuple ⟨[]⟩) fun t24=>k t24 H12 nx10))\/False) (
 W1 (.tuple ⟨[]⟩) fun t25=>k t25 H9 nx9))
theorem spec16 {a3 a4 a5:Value} (h:F16 a0 a1 a2 a3 a4 a5 H nx k):J2 Tryd.prog 16 [a0,a1,a2,a3,a4,a5] H nx k:=
 K2 mixed Z2 41 6 d16 [] (by kernel_rfl) (by kernel_rfl) (by simp) (by kernel_rfl) h
noncomputable def d4:D:=Y5 Tryd.prog 4 [(2,[22])] [[9,44]] [.one (.tst (.one .nil) (.one .nil)),.one (.tst (.one (.tst (.one .nil) (.one .nil))) (.one (.one (.one .nil)))),.one (.tst (.one (.tst (.one (.tst (.one .nil) (.one .nil))) (.one (.one (.one .nil))))) (.one (.one (.one (.one (.one .nil))))))]
noncomputable def F4 (a0 a1:Value) (H:Y0) (nx:Nat) (k:EP):Prop:=
 R5 a0 fun t1=>D2 (.cells t1 0) .ptr H nx fun t2 H1 nx1=>
 B4 (fun t3=>
 G0 t2 (some 2) H1 fun t5=>
 Z1 Tryd.prog 5 [t5] H1 nx1 fun t6 H3 nx3=>
 wUn .not t6 fun t7=>
 J4 false t7 (
 D1 t2 0 fun t8=>
 G0 t8 none H3 fun t9=>
 J0 .eql t9 (.int .i64 0) fun t10=>
 t3 [t10] H3 nx3) (
 t3 [(.bool true)] H3 nx3)) (fun t4 H2 nx2=>
 G2 (t4.getD 0 undef) (
 Z1 Tryd.prog 6 [] H2 nx2 fun t11 H4 nx4=>
 W1 t11 fun t12=>k t12 H4 nx4) (
 E2 (nx2+12) fun nx5=>
 M3 .i64 a1 fun t13=>
 D1 t2 0 fun t14=>
 G0 t14 none H2 fun t15=>
 J0 .add t15 (.int .i64 1) fun t16=>
 J0 .rem t13 t16 fun t17=>
 D1 t2 0 fun t18=>
 G0 t18 none H2 fun t19=>
 J0 .sub t19 (.int .i64 4) fun t20=>
 wVf (.mm true) [t17,t20] fun t21=>
 wNm nx2 10 .ptr fun t22=>
 hsK H2 (nx2+10) (some (.cells [.int .i64 0] 0)) fun H6=>W3 t22 t21 1 H6 fun H7=>
 (((((True)/\((G0 t18 none H2 fun t26=>t26=t19)/\True))/\(((True)/\((G0 t14 none H2 fun t25=>t25=t15)/\True))/\(((True)/\((M3 .i64 a1 fun t24=>t24=t13)/\True))/\True))))/\(
 G0 t2 (some 2) H7 fun t27=>
 G0 t22 none H7 fun t28=>
 Z1 Tryd.prog 7 [t27,t28] H7 nx5 fun t29 H8 nx8=>
 J5 t29 0 fun t30=>
 J5 t29 1 fun t31=>
 J5 t29 2 fun t32=>
 D2 (.cells [.bool false,.slice none 0 0,.slice none 0 0] 0) .ptr H8 nx8 fun t33 H9 nx9=>
 W3 t33 t31 3 H9 fun H10=>
 D1 t2 1 fun t34=>
 G0 t34 none H10 fun t35=>
 X3 t35 0 H10 fun t36=>
 B3 (fun t37 t38 H11 nx11=>
 J0 .lss (t38.getD 1 undef) t36 fun t39=>
 G2 t39 (
 W2 t35 (t38.getD 1 undef) none 1 fun t40=>
 G0 t40 none H11 fun t41=>
 J0 .or (t38.getD 0 undef) t41 fun t42=>
 J0 .add (t38.getD 1 undef) (.int .i64 1) fun t43=>
 t37 [t42,t43] H11 nx11) (
 D1 t2 0 fun t44=>
 G0 t44 none H11 fun t45=>
 J0 .shl (.int .u32 1) t45 fun t46=>
 J0 .sub t46 (.int .u32 1) fun t47=>
 J0 .neq (t38.getD 0 undef) t47 fun t48=>
 G2 t48 (
 Z1 Tryd.prog 6 [] H11 nx11 fun t49 H12 nx12=>
 J4 true t49 (
 J0 .eql t32 (.int .i64 9) fun t50=>
 J4 true t50 (
 X3 t30 0 H12 fun t51=>
 J0 .eql t51 (.int .i64 0) fun t52=>
 W1 t52 fun t53=>k t53 H12 nx12) (
 W1 (.bool false) fun t54=>k t54 H12 nx12)) (
 W1 (.bool false) fun t55=>k t55 H12 nx12)) (
 D2 (.cells [.slice none 0 0] 0) .ptr H11 nx11 fun t56 H13 nx13=>
 Z1 Tryd.prog 10 [(.int .i64 1000)] H13 nx13 fun t57 H14 nx14=>
 J0 .eql t32 (.int .i64 0) fun t58=>
 D2 (.cells [.bool false,.slice none 0 0,.slice none 0 0] 0) .ptr H14 nx14 fun t59 H15 nx15=>
 D2 (.cells [.bool false] 0) .ptr H15 nx15 fun t60 H16 nx16=>
 W3 t59 t57 3 H16 fun H17=>
 W3 t60 t58 1 H17 fun H18=>
 G0 t22 none H18 fun t61=>
 D1 t2 0 fun t62=>
 G0 t62 none H18 fun t63=>
 Z1 Tryd.prog 15 [t61,t63,(.slice none 0 0)] H18 nx16 fun t64 H19 nx19=>
 Z1 Tryd.prog 14 [(.slice none 0 0),t64,(.func (.func 16) ⟨[]⟩ ⟨[t2,t22,t60,t59,t56]⟩)] H19 nx19 fun t65 H20 nx20=>
 Z1 Tryd.prog 6 [] H20 nx20 fun t66 H21 nx21=>
 J4 true t66 (
 G0 t60 none H21 fun t67=>
 J4 true t67 (
 G0 t56 none H21 fun t68=>
 Z1 Tryd.prog 19 [t30,t68] H21 nx21 fun t69 H22 nx22=>
 J4 true t69 (
 G0 t33 (some 3) H22 fun t70=>
 G0 t59 (some 3) H22 fun t71=>
 Z1 Tryd.prog 9 [t70,t71] H22 nx22 fun t72 H23 nx23=>
 J0 .eql t72 (.int .i64 0) fun t73=>
 W1 t73 fun t74=>k t74 H23 nx23) (
 W1 (.bool false) fun t75=>k t75 H22 nx22)) (
 W1 (.bool false) fun t76=>k t76 H21 nx21)) (
 W1 (.bool false) fun t77=>k t77 H21 nx21)))) [(.int .u32 0),(.int .i64 0)] H10 nx9))\/False))
theorem spec4 (h:F4 a0 a1 H nx k):J2 Tryd.prog 4 [a0,a1] H nx k:=
 K2 mixed Z2 92 7 d4 [(.s 4,none)] (by kernel_rfl) (by kernel_rfl) (by simp) (by kernel_rfl) h
end Go.Proofs.YtpiobdofbhkmjaaDoor
