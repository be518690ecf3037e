/-
  MADE BY PROGRAM (wip/gen/gen.py): functions 37 10 70 58 36 35 31 9 95 101 99 100 98 as marked code,and their claims written out.
-/
import Derived.Test.YtpiobdofbhkmjaaDoorL17
import Derived.KernelRfl
set_option linter.unusedSimpArgs false
set_option linter.unusedVariables false
set_option linter.unusedSectionVars false
namespace Go.Proofs.YtpiobdofbhkmjaaDoor
open Go.Clo
set_option maxRecDepth 100000
variable {H:Y0} {a0 a1:Value} {k:EP} {nx:Nat}
noncomputable def d37:D:=Y5 Tryd.prog 37 [] [] []
noncomputable def F37 (a0:Value) (H:Y0) (nx:Nat) (k:EP):Prop:=
 J0 .lss a0 (.int .i64 0) fun t1=>
 G2 t1 (
 M3 .u64 a0 fun t2=>
 wUn .neg t2 fun t3=>
 Z1 Tryd.prog 56 [t3] H nx fun t4 H1 nx1=>
 W1 t4 fun t5=>k t5 H1 nx1) (
 M3 .u64 a0 fun t6=>
 Z1 Tryd.prog 56 [t6] H nx fun t7 H2 nx2=>
 W1 t7 fun t8=>k t8 H2 nx2)
theorem spec37 (h:F37 a0 H nx k):J2 Tryd.prog 37 [a0] H nx k:=
 K2 mixed Z2 12 4 d37 [(.s 2,none)] (by kernel_rfl) (by kernel_rfl) (by simp) (by kernel_rfl) h
noncomputable def d10:D:=Y5 Tryd.prog 10 [] [] []
noncomputable def F10 (a0:Value) (H:Y0) (nx:Nat) (k:EP):Prop:=
 D2 (.cells [.bool false,.slice none 0 0,.slice none 0 0] 0) .ptr H nx fun t1 H1 nx1=>
 J0 .lss a0 (.int .i64 0) fun t2=>
 Z1 Tryd.prog 37 [a0] H1 nx1 fun t3 H2 nx2=>
 M4 [.bool false,.slice none 0 0,.slice none 0 0] [(0,1),(1,1),(2,1)] [(0,t2),(1,t3)] fun t4=>
 Z1 Tryd.prog 36 [t4] H2 nx2 fun t5 H3 nx3=>
 W3 t1 t5 3 H3 fun H4=>
 G0 t1 (some 3) H4 fun t6=>
 W1 t6 fun t7=>k t7 H4 nx3
theorem spec10 (h:F10 a0 H nx k):J2 Tryd.prog 10 [a0] H nx k:=
 K2 mixed Z2 9 4 d10 [(.s 2,some (some 3))] (by kernel_rfl) (by kernel_rfl) (by simp) (by kernel_rfl) h
noncomputable def d70:D:=Y5 Tryd.prog 70 [(7,[30])] [[6,8]] [.one (.tst (.one .nil) (.one .nil))]
noncomputable def F70 (a0 a1 a2:Value) (H:Y0) (nx:Nat) (k:EP):Prop:=
 Z1 Tryd.prog 52 [a1] H nx fun t1 H1 nx1=>
 J0 .eql t1 (.int .i64 0) fun t2=>
 G2 t2 (
 W1 a0 fun t3=>k t3 H1 nx1) (
 Z1 Tryd.prog 71 [a0] H1 nx1 fun t4 H2 nx2=>
 J5 t4 0 fun t5=>
 J5 t4 1 fun t6=>
 Z1 Tryd.prog 71 [a1] H2 nx2 fun t7 H3 nx3=>
 J5 t7 0 fun t8=>
 J5 t7 1 fun t9=>
 B4 (fun t10=>
 J4 true t9 (
 t10 [t6] H3 nx3) (
 t10 [(.bool false)] H3 nx3)) (fun t11 H4 nx4=>
 G2 (t11.getD 0 undef) (
 B3 (fun t12 t13 H5 nx5=>
 J0 .neq (t13.getD 1 undef) (.int .u64 0) fun t14=>
 G2 t14 (
 E2 (nx5+6) fun nx6=>
 J0 .rem (t13.getD 0 undef) (t13.getD 1 undef) fun t15=>
 ((True)/\(
 t12 [(t13.getD 1 undef),t15] H5 nx6))\/False) (
 Z1 Tryd.prog 56 [(t13.getD 0 undef)] H5 nx5 fun t16 H7 nx7=>
 W1 t16 fun t17=>k t17 H7 nx7)) [t5,t8] H4 nx4) (
 Z1 Tryd.prog 59 [a0,a1] H4 nx4 fun t18 H8 nx8=>
 J5 t18 0 fun t19=>
 J5 t18 1 fun t20=>
 J5 t18 2 fun t21=>
 G0 a2 none H8 fun t22=>
 E22 Tryd.prog t22 [a1,t20] H8 nx8 fun t23 H9 nx9=>
 W1 t23 fun t24=>k t24 H9 nx9)))
theorem spec70 {a2:Value} (h:F70 a0 a1 a2 H nx k):J2 Tryd.prog 70 [a0,a1,a2] H nx k:=
 K2 mixed Z2 50 6 d70 [(.s 5,none)] (by kernel_rfl) (by kernel_rfl) (by simp) (by kernel_rfl) h
noncomputable def d58:D:=Y5 Tryd.prog 58 [] [[0,1]] []
noncomputable def F58 (a0 a1:Value) (H:Y0) (nx:Nat) (k:EP):Prop:=
 D2 (.cells [.nilFunc] 0) .ptr H nx fun t1 H1 nx1=>
 W3 t1 (.func (.func 70) ⟨[]⟩ ⟨[t1]⟩) 1 H1 fun H2=>
 B3 (fun t2 t3 H3 nx3=>
 Z1 Tryd.prog 52 [(t3.getD 1 undef)] H3 nx3 fun t4 H4 nx4=>
 J0 .gtr t4 (.int .i64 4096) fun t5=>
 G2 t5 (
 Z1 Tryd.prog 59 [(t3.getD 0 undef),(t3.getD 1 undef)] H4 nx4 fun t6 H5 nx5=>
 J5 t6 0 fun t7=>
 J5 t6 1 fun t8=>
 J5 t6 2 fun t9=>
 t2 [(t3.getD 1 undef),t8] H5 nx5) (
 G0 t1 none H4 fun t10=>
 E22 Tryd.prog t10 [(t3.getD 0 undef),(t3.getD 1 undef)] H4 nx4 fun t11 H6 nx6=>
 W1 t11 fun t12=>k t12 H6 nx6)) [a0,a1] H2 nx1
theorem spec58 (h:F58 a0 a1 H nx k):J2 Tryd.prog 58 [a0,a1] H nx k:=
 K2 mixed Z2 26 5 d58 [(.s 4,none)] (by kernel_rfl) (by kernel_rfl) (by simp) (by kernel_rfl) h
noncomputable def d36:D:=Y5 Tryd.prog 36 [(3,[19]),(5,[3,4])] [] [.one (.tst (.one .nil) (.one .nil)),.one (.tst (.one .nil) (.one .nil))]
noncomputable def F36 (a0:Value) (H:Y0) (nx:Nat) (k:EP):Prop:=
 R5 a0 fun t1=>D2 (.cells t1 0) .ptr H nx fun t2 H1 nx1=>
 D2 (.cells [.bool false,.slice none 0 0,.slice none 0 0] 0) .ptr H1 nx1 fun t3 H2 nx2=>
 E2 (nx2+8) fun nx3=>
 D1 t2 1 fun t4=>
 G0 t4 none H2 fun t5=>
 Z1 Tryd.prog 57 [t5] H2 nx3 fun t6 H4 nx4=>
 D1 t2 2 fun t7=>
 G0 t7 none H4 fun t8=>
 Z1 Tryd.prog 57 [t8] H4 nx4 fun t9 H5 nx5=>
 (((((True)/\((G0 t7 none H4 fun t11=>t11=t8)/\((G0 t7 none H2 fun t12=>t12=t8)/\True)))/\(((True)/\((True)/\((G0 t4 none H2 fun t10=>t10=t5)/\True)))/\True)))/\(
 B4 (fun t13=>
 X3 t6 0 H5 fun t15=>
 J0 .eql t15 (.int .i64 0) fun t16=>
 J4 false t16 (
 X3 t9 0 H5 fun t17=>
 J0 .eql t17 (.int .i64 0) fun t18=>
 t13 [t18] H5 nx5) (
 t13 [(.bool true)] H5 nx5)) (fun t14 H6 nx6=>
 G2 (t14.getD 0 undef) (
 D1 t2 0 fun t19=>
 G0 t19 none H6 fun t20=>
 J4 true t20 (
 X3 t6 0 H6 fun t21=>
 J0 .gtr t21 (.int .i64 0) fun t22=>
 Z1 Tryd.prog 56 [(.int .u64 1)] H6 nx6 fun t23 H7 nx7=>
 M4 [.bool false,.slice none 0 0,.slice none 0 0] [(0,1),(1,1),(2,1)] [(0,t22),(1,t6),(2,t23)] fun t24=>
 W3 t3 t24 3 H7 fun H8=>
 G0 t3 (some 3) H8 fun t25=>
 W1 t25 fun t26=>k t26 H8 nx7) (
 Z1 Tryd.prog 56 [(.int .u64 1)] H6 nx6 fun t27 H9 nx9=>
 M4 [.bool false,.slice none 0 0,.slice none 0 0] [(0,1),(1,1),(2,1)] [(0,(.bool false)),(1,t6),(2,t27)] fun t28=>
 W3 t3 t28 3 H9 fun H10=>
 G0 t3 (some 3) H10 fun t29=>
 W1 t29 fun t30=>k t30 H10 nx9)) (
 B4 (fun t31=>
 Z1 Tryd.prog 52 [t9] H6 nx6 fun t33 H12 nx12=>
 J0 .gtr t33 (.int .i64 1) fun t34=>
 G2 t34 (
 Z1 Tryd.prog 58 [t6,t9] H12 nx12 fun t35 H13 nx13=>
 Z1 Tryd.prog 52 [t35] H13 nx13 fun t36 H14 nx14=>
 J0 .gtr t36 (.int .i64 1) fun t37=>
 G2 t37 (
 Z1 Tryd.prog 59 [t6,t35] H14 nx14 fun t38 H15 nx15=>
 J5 t38 0 fun t39=>
 J5 t38 1 fun t40=>
 J5 t38 2 fun t41=>
 Z1 Tryd.prog 59 [t9,t35] H15 nx15 fun t42 H16 nx16=>
 J5 t42 0 fun t43=>
 J5 t42 1 fun t44=>
 J5 t42 2 fun t45=>
 t31 [t39,t43] H16 nx16) (
 t31 [t6,t9] H14 nx14)) (
 t31 [t6,t9] H12 nx12)) (fun t32 H11 nx11=>
 D1 t2 0 fun t46=>
 G0 t46 none H11 fun t47=>
 M4 [.bool false,.slice none 0 0,.slice none 0 0] [(0,1),(1,1),(2,1)] [(0,t47),(1,(t32.getD 0 undef)),(2,(t32.getD 1 undef))] fun t48=>
 W3 t3 t48 3 H11 fun H17=>
 G0 t3 (some 3) H17 fun t49=>
 W1 t49 fun t50=>k t50 H17 nx11)))))\/False
theorem spec36 (h:F36 a0 H nx k):J2 Tryd.prog 36 [a0] H nx k:=
 K2 mixed Z2 58 6 d36 [(.s 2,some (some 3))] (by kernel_rfl) (by kernel_rfl) (by simp) (by kernel_rfl) h
noncomputable def d35:D:=Y5 Tryd.prog 35 [] [] []
noncomputable def F35 (a0:Value) (H:Y0) (nx:Nat) (k:EP):Prop:=
 R5 a0 fun t1=>D2 (.cells t1 0) .ptr H nx fun t2 H1 nx1=>
 D1 t2 2 fun t3=>
 G0 t3 none H1 fun t4=>
 Z1 Tryd.prog 52 [t4] H1 nx1 fun t5 H2 nx2=>
 J0 .eql t5 (.int .i64 0) fun t6=>
 G2 t6 (
 Z1 Tryd.prog 56 [(.int .u64 1)] H2 nx2 fun t7 H3 nx3=>
 W1 t7 fun t8=>k t8 H3 nx3) (
 D1 t2 2 fun t9=>
 G0 t9 none H2 fun t10=>
 W1 t10 fun t11=>k t11 H2 nx2)
theorem spec35 (h:F35 a0 H nx k):J2 Tryd.prog 35 [a0] H nx k:=
 K2 mixed Z2 10 4 d35 [(.s 2,none)] (by kernel_rfl) (by kernel_rfl) (by simp) (by kernel_rfl) h
noncomputable def d31:D:=Y5 Tryd.prog 31 [] [] []
noncomputable def F31 (a0:Value) (H:Y0) (nx:Nat) (k:EP):Prop:=
 R5 a0 fun t1=>D2 (.cells t1 0) .ptr H nx fun t2 H1 nx1=>
 D1 t2 1 fun t3=>
 G0 t3 none H1 fun t4=>
 Z1 Tryd.prog 52 [t4] H1 nx1 fun t5 H2 nx2=>
 J0 .eql t5 (.int .i64 0) fun t6=>
 G2 t6 (
 W1 (.int .i64 0) fun t7=>k t7 H2 nx2) (
 D1 t2 0 fun t8=>
 G0 t8 none H2 fun t9=>
 G2 t9 (
 W1 (.int .i64 (-1)) fun t10=>k t10 H2 nx2) (
 W1 (.int .i64 1) fun t11=>k t11 H2 nx2))
theorem spec31 (h:F31 a0 H nx k):J2 Tryd.prog 31 [a0] H nx k:=
 K2 mixed Z2 11 4 d31 [(.s 2,none)] (by kernel_rfl) (by kernel_rfl) (by simp) (by kernel_rfl) h
noncomputable def d9:D:=Y5 Tryd.prog 9 [] [] []
noncomputable def F9 (a0 a1:Value) (H:Y0) (nx:Nat) (k:EP):Prop:=
 R5 a0 fun t1=>D2 (.cells t1 0) .ptr H nx fun t2 H1 nx1=>
 R5 a1 fun t3=>D2 (.cells t3 0) .ptr H1 nx1 fun t4 H2 nx2=>
 G0 t2 (some 3) H2 fun t5=>
 Z1 Tryd.prog 31 [t5] H2 nx2 fun t6 H3 nx3=>
 G0 t4 (some 3) H3 fun t7=>
 Z1 Tryd.prog 31 [t7] H3 nx3 fun t8 H4 nx4=>
 J0 .neq t6 t8 fun t9=>
 G2 t9 (
 Z1 Tryd.prog 32 [t6,t8] H4 nx4 fun t10 H5 nx5=>
 W1 t10 fun t11=>k t11 H5 nx5) (
 E2 (nx4+14) fun nx6=>
 D1 t2 1 fun t12=>
 G0 t12 none H4 fun t13=>
 G0 t4 (some 3) H4 fun t14=>
 Z1 Tryd.prog 35 [t14] H4 nx6 fun t15 H7 nx7=>
 Z1 Tryd.prog 34 [t13,t15] H7 nx7 fun t16 H8 nx8=>
 D1 t4 1 fun t17=>
 G0 t17 none H8 fun t18=>
 G0 t2 (some 3) H8 fun t19=>
 Z1 Tryd.prog 35 [t19] H8 nx8 fun t20 H9 nx9=>
 Z1 Tryd.prog 34 [t18,t20] H9 nx9 fun t21 H10 nx10=>
 Z1 Tryd.prog 33 [t16,t21] H10 nx10 fun t22 H11 nx11=>
 J0 .mul t6 t22 fun t23=>
 (((((True)/\((True)/\((True)/\((G0 t2 (some 3) H8 fun t31=>t31=t19)/\((G0 t2 (some 3) H7 fun t32=>t32=t19)/\((G0 t2 (some 3) H4 fun t33=>t33=t19)/\True))))))/\(((True)/\((True)/\((G0 t17 none H9 fun t27=>t27=t18)/\((G0 t17 none H8 fun t28=>t28=t18)/\((G0 t17 none H7 fun t29=>t29=t18)/\((G0 t17 none H4 fun t30=>t30=t18)/\True))))))/\(((True)/\((True)/\((True)/\((True)/\((True)/\((G0 t4 (some 3) H4 fun t26=>t26=t14)/\True))))))/\(((True)/\((True)/\((True)/\((True)/\((G0 t12 none H7 fun t24=>t24=t13)/\((G0 t12 none H4 fun t25=>t25=t13)/\True))))))/\True)))))/\(
 W1 t23 fun t34=>k t34 H11 nx11))\/False)
theorem spec9 (h:F9 a0 a1 H nx k):J2 Tryd.prog 9 [a0,a1] H nx k:=
 K2 mixed Z2 30 5 d9 [(.s 4,none)] (by kernel_rfl) (by kernel_rfl) (by simp) (by kernel_rfl) h
noncomputable def d95:D:=Y5 Tryd.prog 95 [] [] []
noncomputable def F95 (a0:Value) (H:Y0) (nx:Nat) (k:EP):Prop:=
 R5 a0 fun t1=>D2 (.cells t1 0) .ptr H nx fun t2 H1 nx1=>
 D2 (.cells [.bool false,.slice none 0 0,.slice none 0 0] 0) .ptr H1 nx1 fun t3 H2 nx2=>
 D1 t2 0 fun t4=>
 G0 t4 none H2 fun t5=>
 wUn .not t5 fun t6=>
 D1 t2 1 fun t7=>
 G0 t7 none H2 fun t8=>
 D1 t2 2 fun t9=>
 G0 t9 none H2 fun t10=>
 M4 [.bool false,.slice none 0 0,.slice none 0 0] [(0,1),(1,1),(2,1)] [(0,t6),(1,t8),(2,t10)] fun t11=>
 Z1 Tryd.prog 36 [t11] H2 nx2 fun t12 H3 nx3=>
 W3 t3 t12 3 H3 fun H4=>
 G0 t3 (some 3) H4 fun t13=>
 W1 t13 fun t14=>k t14 H4 nx3
theorem spec95 (h:F95 a0 H nx k):J2 Tryd.prog 95 [a0] H nx k:=
 K2 mixed Z2 12 4 d95 [(.s 2,some (some 3))] (by kernel_rfl) (by kernel_rfl) (by simp) (by kernel_rfl) h
noncomputable def d101:D:=Y5 Tryd.prog 101 [] [] []
noncomputable def F101 (a0 a1:Value) (H:Y0) (nx:Nat) (k:EP):Prop:=
 R5 a0 fun t1=>D2 (.cells t1 0) .ptr H nx fun t2 H1 nx1=>
 R5 a1 fun t3=>D2 (.cells t3 0) .ptr H1 nx1 fun t4 H2 nx2=>
 D2 (.cells [.bool false,.slice none 0 0,.slice none 0 0] 0) .ptr H2 nx2 fun t5 H3 nx3=>
 E2 (nx3+6) fun nx4=>
 G0 t2 (some 3) H3 fun t6=>
 Z1 Tryd.prog 36 [t6] H3 nx4 fun t7 H5 nx5=>
 G0 t4 (some 3) H5 fun t8=>
 Z1 Tryd.prog 36 [t8] H5 nx5 fun t9 H6 nx6=>
 W3 t2 t7 3 H6 fun H7=>
 W3 t4 t9 3 H7 fun H8=>
 (((((True)/\((True)/\((True)/\((G0 t4 (some 3) H5 fun t11=>t11=t8)/\((G0 t4 (some 3) H3 fun t12=>t12=t8)/\True)))))/\(((True)/\((True)/\((True)/\((True)/\((G0 t2 (some 3) H3 fun t10=>t10=t6)/\True)))))/\True)))/\(
 E2 (nx6+12) fun nx9=>
 D1 t2 1 fun t13=>
 G0 t13 none H8 fun t14=>
 D1 t4 2 fun t15=>
 G0 t15 none H8 fun t16=>
 Z1 Tryd.prog 34 [t14,t16] H8 nx9 fun t17 H10 nx10=>
 D1 t4 1 fun t18=>
 G0 t18 none H10 fun t19=>
 D1 t2 2 fun t20=>
 G0 t20 none H10 fun t21=>
 Z1 Tryd.prog 34 [t19,t21] H10 nx10 fun t22 H11 nx11=>
 (((((True)/\((G0 t20 none H10 fun t27=>t27=t21)/\((G0 t20 none H8 fun t28=>t28=t21)/\True)))/\(((True)/\((G0 t18 none H10 fun t25=>t25=t19)/\((G0 t18 none H8 fun t26=>t26=t19)/\True)))/\(((True)/\((True)/\((G0 t15 none H8 fun t24=>t24=t16)/\True)))/\(((True)/\((True)/\((G0 t13 none H8 fun t23=>t23=t14)/\True)))/\True)))))/\(
 D1 t2 2 fun t29=>
 G0 t29 none H11 fun t30=>
 D1 t4 2 fun t31=>
 G0 t31 none H11 fun t32=>
 Z1 Tryd.prog 34 [t30,t32] H11 nx11 fun t33 H12 nx12=>
 D1 t2 0 fun t34=>
 G0 t34 none H12 fun t35=>
 D1 t4 0 fun t36=>
 G0 t36 none H12 fun t37=>
 wVf (.eqb false) [t35,t37] fun t38=>
 G2 t38 (
 E2 (nx12+9) fun nx13=>
 D1 t2 0 fun t39=>
 G0 t39 none H12 fun t40=>
 Z1 Tryd.prog 102 [t17,t22] H12 nx13 fun t41 H14 nx14=>
 M4 [.bool false,.slice none 0 0,.slice none 0 0] [(0,1),(1,1),(2,1)] [(0,t40),(1,t41),(2,t33)] fun t42=>
 Z1 Tryd.prog 36 [t42] H14 nx14 fun t43 H15 nx15=>
 W3 t5 t43 3 H15 fun H16=>
 (((((True)/\((True)/\((G0 t39 none H14 fun t44=>t44=t40)/\((G0 t39 none H12 fun t45=>t45=t40)/\True))))/\True))/\(
 G0 t5 (some 3) H16 fun t46=>
 W1 t46 fun t47=>k t47 H16 nx15))\/False) (
 Z1 Tryd.prog 103 [t17,t22] H12 nx12 fun t48 H17 nx17=>
 J5 t48 0 fun t49=>
 J5 t48 1 fun t50=>
 J0 .eql t50 (.int .i64 0) fun t51=>
 G2 t51 (
 D1 t2 0 fun t52=>
 G0 t52 none H17 fun t53=>
 M4 [.bool false,.slice none 0 0,.slice none 0 0] [(0,1),(1,1),(2,1)] [(0,t53),(1,t49),(2,t33)] fun t54=>
 Z1 Tryd.prog 36 [t54] H17 nx17 fun t55 H18 nx18=>
 W3 t5 t55 3 H18 fun H19=>
 G0 t5 (some 3) H19 fun t56=>
 W1 t56 fun t57=>k t57 H19 nx18) (
 Z1 Tryd.prog 103 [t22,t17] H17 nx17 fun t58 H20 nx20=>
 J5 t58 0 fun t59=>
 J5 t58 1 fun t60=>
 D1 t4 0 fun t61=>
 G0 t61 none H20 fun t62=>
 M4 [.bool false,.slice none 0 0,.slice none 0 0] [(0,1),(1,1),(2,1)] [(0,t62),(1,t59),(2,t33)] fun t63=>
 Z1 Tryd.prog 36 [t63] H20 nx20 fun t64 H21 nx21=>
 W3 t5 t64 3 H21 fun H22=>
 G0 t5 (some 3) H22 fun t65=>
 W1 t65 fun t66=>k t66 H22 nx21))))\/False))\/False
theorem spec101 (h:F101 a0 a1 H nx k):J2 Tryd.prog 101 [a0,a1] H nx k:=
 K2 mixed Z2 70 7 d101 [(.s 4,some (some 3))] (by kernel_rfl) (by kernel_rfl) (by simp) (by kernel_rfl) h
noncomputable def d99:D:=Y5 Tryd.prog 99 [] [] []
noncomputable def F99 (a0 a1:Value) (H:Y0) (nx:Nat) (k:EP):Prop:=
 R5 a0 fun t1=>D2 (.cells t1 0) .ptr H nx fun t2 H1 nx1=>
 R5 a1 fun t3=>D2 (.cells t3 0) .ptr H1 nx1 fun t4 H2 nx2=>
 D2 (.cells [.bool false,.slice none 0 0,.slice none 0 0] 0) .ptr H2 nx2 fun t5 H3 nx3=>
 E2 (nx3+5) fun nx4=>
 G0 t2 (some 3) H3 fun t6=>
 G0 t4 (some 3) H3 fun t7=>
 Z1 Tryd.prog 95 [t7] H3 nx4 fun t8 H5 nx5=>
 Z1 Tryd.prog 101 [t6,t8] H5 nx5 fun t9 H6 nx6=>
 W3 t5 t9 3 H6 fun H7=>
 (((((True)/\((True)/\((True)/\((G0 t4 (some 3) H3 fun t12=>t12=t7)/\True))))/\(((True)/\((True)/\((G0 t2 (some 3) H5 fun t10=>t10=t6)/\((G0 t2 (some 3) H3 fun t11=>t11=t6)/\True))))/\True)))/\(
 G0 t5 (some 3) H7 fun t13=>
 W1 t13 fun t14=>k t14 H7 nx6))\/False
theorem spec99 (h:F99 a0 a1 H nx k):J2 Tryd.prog 99 [a0,a1] H nx k:=
 K2 mixed Z2 9 4 d99 [(.s 4,some (some 3))] (by kernel_rfl) (by kernel_rfl) (by simp) (by kernel_rfl) h
noncomputable def d100:D:=Y5 Tryd.prog 100 [] [] []
noncomputable def F100 (a0 a1:Value) (H:Y0) (nx:Nat) (k:EP):Prop:=
 R5 a0 fun t1=>D2 (.cells t1 0) .ptr H nx fun t2 H1 nx1=>
 R5 a1 fun t3=>D2 (.cells t3 0) .ptr H1 nx1 fun t4 H2 nx2=>
 D2 (.cells [.bool false,.slice none 0 0,.slice none 0 0] 0) .ptr H2 nx2 fun t5 H3 nx3=>
 E2 (nx3+6) fun nx4=>
 G0 t2 (some 3) H3 fun t6=>
 Z1 Tryd.prog 36 [t6] H3 nx4 fun t7 H5 nx5=>
 G0 t4 (some 3) H5 fun t8=>
 Z1 Tryd.prog 36 [t8] H5 nx5 fun t9 H6 nx6=>
 W3 t2 t7 3 H6 fun H7=>
 W3 t4 t9 3 H7 fun H8=>
 (((((True)/\((True)/\((True)/\((G0 t4 (some 3) H5 fun t11=>t11=t8)/\((G0 t4 (some 3) H3 fun t12=>t12=t8)/\True)))))/\(((True)/\((True)/\((True)/\((True)/\((G0 t2 (some 3) H3 fun t10=>t10=t6)/\True)))))/\True)))/\(
 E2 (nx6+18) fun nx9=>
 D1 t2 0 fun t13=>
 G0 t13 none H8 fun t14=>
 D1 t4 0 fun t15=>
 G0 t15 none H8 fun t16=>
 wVf (.eqb true) [t14,t16] fun t17=>
 D1 t2 1 fun t18=>
 G0 t18 none H8 fun t19=>
 D1 t4 1 fun t20=>
 G0 t20 none H8 fun t21=>
 Z1 Tryd.prog 34 [t19,t21] H8 nx9 fun t22 H10 nx10=>
 D1 t2 2 fun t23=>
 G0 t23 none H10 fun t24=>
 D1 t4 2 fun t25=>
 G0 t25 none H10 fun t26=>
 Z1 Tryd.prog 34 [t24,t26] H10 nx10 fun t27 H11 nx11=>
 M4 [.bool false,.slice none 0 0,.slice none 0 0] [(0,1),(1,1),(2,1)] [(0,t17),(1,t22),(2,t27)] fun t28=>
 Z1 Tryd.prog 36 [t28] H11 nx11 fun t29 H12 nx12=>
 W3 t5 t29 3 H12 fun H13=>
 (((((True)/\((True)/\((True)/\((G0 t25 none H10 fun t40=>t40=t26)/\((G0 t25 none H8 fun t41=>t41=t26)/\True)))))/\(((True)/\((True)/\((True)/\((G0 t23 none H10 fun t38=>t38=t24)/\((G0 t23 none H8 fun t39=>t39=t24)/\True)))))/\(((True)/\((True)/\((True)/\((True)/\((G0 t20 none H8 fun t37=>t37=t21)/\True)))))/\(((True)/\((True)/\((True)/\((True)/\((G0 t18 none H8 fun t36=>t36=t19)/\True)))))/\(((True)/\((True)/\((G0 t15 none H11 fun t33=>t33=t16)/\((G0 t15 none H10 fun t34=>t34=t16)/\((G0 t15 none H8 fun t35=>t35=t16)/\True)))))/\(((True)/\((True)/\((G0 t13 none H11 fun t30=>t30=t14)/\((G0 t13 none H10 fun t31=>t31=t14)/\((G0 t13 none H8 fun t32=>t32=t14)/\True)))))/\True)))))))/\(
 G0 t5 (some 3) H13 fun t42=>
 W1 t42 fun t43=>k t43 H13 nx12))\/False))\/False
theorem spec100 (h:F100 a0 a1 H nx k):J2 Tryd.prog 100 [a0,a1] H nx k:=
 K2 mixed Z2 26 5 d100 [(.s 4,some (some 3))] (by kernel_rfl) (by kernel_rfl) (by simp) (by kernel_rfl) h
noncomputable def d98:D:=Y5 Tryd.prog 98 [] [] []
noncomputable def F98 (a0 a1:Value) (H:Y0) (nx:Nat) (k:EP):Prop:=
 R5 a0 fun t1=>D2 (.cells t1 0) .ptr H nx fun t2 H1 nx1=>
 R5 a1 fun t3=>D2 (.cells t3 0) .ptr H1 nx1 fun t4 H2 nx2=>
 D2 (.cells [.bool false,.slice none 0 0,.slice none 0 0] 0) .ptr H2 nx2 fun t5 H3 nx3=>
 G0 t4 (some 3) H3 fun t6=>
 Z1 Tryd.prog 36 [t6] H3 nx3 fun t7 H4 nx4=>
 W3 t4 t7 3 H4 fun H5=>
 D1 t4 1 fun t8=>
 G0 t8 none H5 fun t9=>
 X3 t9 0 H5 fun t10=>
 J0 .eql t10 (.int .i64 0) fun t11=>
 G2 t11 (
 M4 [.bool false,.slice none 0 0,.slice none 0 0] [(0,1),(1,1),(2,1)] [] fun t12=>
 W3 t5 t12 3 H5 fun H6=>
 G0 t5 (some 3) H6 fun t13=>
 W1 (.tuple ⟨[t13,(.int .i64 18)]⟩) fun t14=>k t14 H6 nx4) (
 G0 t2 (some 3) H5 fun t15=>
 D1 t4 0 fun t16=>
 G0 t16 none H5 fun t17=>
 D1 t4 2 fun t18=>
 G0 t18 none H5 fun t19=>
 D1 t4 1 fun t20=>
 G0 t20 none H5 fun t21=>
 M4 [.bool false,.slice none 0 0,.slice none 0 0] [(0,1),(1,1),(2,1)] [(0,t17),(1,t19),(2,t21)] fun t22=>
 Z1 Tryd.prog 100 [t15,t22] H5 nx4 fun t23 H7 nx7=>
 W3 t5 t23 3 H7 fun H8=>
 G0 t5 (some 3) H8 fun t24=>
 W1 (.tuple ⟨[t24,(.int .i64 0)]⟩) fun t25=>k t25 H8 nx7)
theorem spec98 (h:F98 a0 a1 H nx k):J2 Tryd.prog 98 [a0,a1] H nx k:=
 K2 mixed Z2 22 5 d98 [(.s 4,some (some 3)),(.s 5,none)] (by kernel_rfl) (by kernel_rfl) (by simp) (by kernel_rfl) h
end Go.Proofs.YtpiobdofbhkmjaaDoor
