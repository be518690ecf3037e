/-
  MADE BY PROGRAM (wip/gen/gen.py): functions 83 92 93 75 96 94 97 76 77 78 79 80 81 82 63 61 64 62 43 as marked code,and their claims written out.
-/
import Derived.Test.YtpiobdofbhkmjaaDoorL18
import Derived.KernelRfl
set_option linter.unusedSimpArgs false
set_option linter.unusedVariables false
set_option linter.unusedSectionVars false
namespace Go.Proofs.YtpiobdofbhkmjaaDoor
open Go.Clo
set_option maxRecDepth 100000
variable {H:Y0} {a0 a1 a2:Value} {k:EP} {nx:Nat}
noncomputable def d83:D:=Y5 Tryd.prog 83 [] [] []
noncomputable def F83 (a0:Value) (H:Y0) (nx:Nat) (k:EP):Prop:=
 E2 (nx+11) fun nx1=>
 D4 a0 fun t1=>
 D1 t1 0 fun t2=>
 G0 t2 none H fun t3=>
 D4 a0 fun t4=>
 D1 t4 1 fun t5=>
 G0 t5 none H fun t6=>
 J0 .add t3 t6 fun t7=>
 J0 .add t7 (.int .i64 1) fun t8=>
 (((((G0 t5 none H fun t10=>t10=t6)/\True)/\(((G0 t2 none H fun t9=>t9=t3)/\True)/\True)))/\(
 W1 t8 fun t11=>k t11 H nx1))\/False
theorem spec83 (h:F83 a0 H nx k):J2 Tryd.prog 83 [a0] H nx k:=
 K2 mixed Z2 13 4 d83 [(.s 2,none)] (by kernel_rfl) (by kernel_rfl) (by simp) (by kernel_rfl) h
noncomputable def d92:D:=Y5 Tryd.prog 92 [] [[9]] []
noncomputable def F92 (a0:Value) (H:Y0) (nx:Nat) (k:EP):Prop:=
 K21 a0 a0 [.bool false,.slice none 0 0,.slice none 0 0] fun t1 t3 t4=>D2 (.cells t1 0) (.slice t3 t4) H nx fun t2 H1 nx1=>
 X3 t2 0 H1 fun t5=>
 B3 (fun t6 t7 H2 nx2=>
 J0 .lss (t7.getD 0 undef) t5 fun t8=>
 G2 t8 (
 Z1 Tryd.prog 10 [(.int .i64 0)] H2 nx2 fun t9 H3 nx3=>
 W2 t2 (t7.getD 0 undef) none 3 fun t10=>
 W3 t10 t9 3 H3 fun H4=>
 J0 .add (t7.getD 0 undef) (.int .i64 1) fun t11=>
 t6 [t11] H4 nx3) (
 W1 t2 fun t12=>k t12 H2 nx2)) [(.int .i64 0)] H1 nx1
theorem spec92 (h:F92 a0 H nx k):J2 Tryd.prog 92 [a0] H nx k:=
 K2 mixed Z2 18 5 d92 [(.s 2,none)] (by kernel_rfl) (by kernel_rfl) (by simp) (by kernel_rfl) h
noncomputable def d93:D:=Y5 Tryd.prog 93 [] [] []
noncomputable def F93 (a0:Value) (H:Y0) (nx:Nat) (k:EP):Prop:=
 E2 (nx+10) fun nx1=>
 D4 a0 fun t1=>
 D1 t1 0 fun t2=>
 G0 t2 none H fun t3=>
 D4 a0 fun t4=>
 D1 t4 1 fun t5=>
 G0 t5 none H fun t6=>
 J0 .add t3 t6 fun t7=>
 (((((G0 t5 none H fun t9=>t9=t6)/\True)/\(((G0 t2 none H fun t8=>t8=t3)/\True)/\True)))/\(
 W1 t7 fun t10=>k t10 H nx1))\/False
theorem spec93 (h:F93 a0 H nx k):J2 Tryd.prog 93 [a0] H nx k:=
 K2 mixed Z2 12 4 d93 [(.s 2,none)] (by kernel_rfl) (by kernel_rfl) (by simp) (by kernel_rfl) h
noncomputable def d75:D:=Y5 Tryd.prog 75 [] [[15]] []
noncomputable def F75 (a0:Value) (H:Y0) (nx:Nat) (k:EP):Prop:=
 R5 a0 fun t1=>D2 (.cells t1 0) .ptr H nx fun t2 H1 nx1=>
 D1 t2 1 fun t3=>
 G0 t3 none H1 fun t4=>
 X3 t4 0 H1 fun t5=>
 D1 t2 2 fun t6=>
 G0 t6 none H1 fun t7=>
 X3 t7 0 H1 fun t8=>
 J0 .neq t5 t8 fun t9=>
 G2 t9 (
 W1 (.bool false) fun t10=>k t10 H1 nx1) (
 D1 t2 1 fun t11=>
 G0 t11 none H1 fun t12=>
 X3 t12 0 H1 fun t13=>
 B3 (fun t14 t15 H2 nx2=>
 J0 .lss (t15.getD 0 undef) t13 fun t16=>
 G2 t16 (
 W2 t12 (t15.getD 0 undef) none 1 fun t17=>
 G0 t17 none H2 fun t18=>
 X3 t18 0 H2 fun t19=>
 D1 t2 0 fun t20=>
 G0 t20 none H2 fun t21=>
 X3 t21 0 H2 fun t22=>
 J0 .neq t19 t22 fun t23=>
 G2 t23 (
 W1 (.bool false) fun t24=>k t24 H2 nx2) (
 J0 .add (t15.getD 0 undef) (.int .i64 1) fun t25=>
 t14 [t25] H2 nx2)) (
 W1 (.bool true) fun t26=>k t26 H2 nx2)) [(.int .i64 0)] H1 nx1)
theorem spec75 (h:F75 a0 H nx k):J2 Tryd.prog 75 [a0] H nx k:=
 K2 mixed Z2 26 5 d75 [(.s 2,none)] (by kernel_rfl) (by kernel_rfl) (by simp) (by kernel_rfl) h
noncomputable def d96:D:=Y5 Tryd.prog 96 [(10,[])] [[21]] []
noncomputable def F96 (a0 a1 a2:Value) (H:Y0) (nx:Nat) (k:EP):Prop:=
 R5 a2 fun t1=>D2 (.cells t1 0) .ptr H nx fun t2 H1 nx1=>
 X3 a0 0 H1 fun t3=>
 K21 t3 t3 [.bool false,.slice none 0 0,.slice none 0 0] fun t4 t6 t7=>D2 (.cells t4 0) (.slice t6 t7) H1 nx1 fun t5 H2 nx2=>
 Z39 t5 a0 3 H2 nx2 fun t8 H3 nx3=>
 G0 t2 (some 3) H3 fun t9=>
 Z1 Tryd.prog 31 [t9] H3 nx3 fun t10 H4 nx4=>
 J0 .eql t10 (.int .i64 0) fun t11=>
 G2 t11 (
 W1 t5 fun t12=>k t12 H4 nx4) (
 X3 t5 0 H4 fun t13=>
 B3 (fun t14 t15 H5 nx5=>
 J0 .lss (t15.getD 0 undef) t13 fun t16=>
 G2 t16 (
 B4 (fun t17=>
 W2 a1 (t15.getD 0 undef) none 3 fun t19=>
 G0 t19 (some 3) H5 fun t20=>
 Z1 Tryd.prog 31 [t20] H5 nx5 fun t21 H7 nx7=>
 J0 .neq t21 (.int .i64 0) fun t22=>
 G2 t22 (
 E2 (nx7+15) fun nx8=>
 W2 t5 (t15.getD 0 undef) none 3 fun t23=>
 G0 t23 (some 3) H7 fun t24=>
 G0 t2 (some 3) H7 fun t25=>
 W2 a1 (t15.getD 0 undef) none 3 fun t26=>
 G0 t26 (some 3) H7 fun t27=>
 Z1 Tryd.prog 100 [t25,t27] H7 nx8 fun t28 H9 nx9=>
 Z1 Tryd.prog 99 [t24,t28] H9 nx9 fun t29 H10 nx10=>
 W2 t5 (t15.getD 0 undef) none 3 fun t30=>
 W3 t30 t29 3 H10 fun H11=>
 (((((True)/\((True)/\((True)/\((G0 t26 (some 3) H7 fun t34=>t34=t27)/\True))))/\(((True)/\((True)/\((True)/\((G0 t2 (some 3) H7 fun t33=>t33=t25)/\True))))/\(((True)/\((True)/\((G0 t23 (some 3) H9 fun t31=>t31=t24)/\((G0 t23 (some 3) H7 fun t32=>t32=t24)/\True))))/\True))))/\(
 t17 [] H11 nx10))\/False) (
 t17 [] H7 nx7)) (fun t18 H6 nx6=>
 J0 .add (t15.getD 0 undef) (.int .i64 1) fun t35=>
 t14 [t35] H6 nx6)) (
 W1 t5 fun t36=>k t36 H5 nx5)) [(.int .i64 0)] H4 nx4)
theorem spec96 (h:F96 a0 a1 a2 H nx k):J2 Tryd.prog 96 [a0,a1,a2] H nx k:=
 K2 mixed Z2 46 6 d96 [(.s 6,none)] (by kernel_rfl) (by kernel_rfl) (by simp) (by kernel_rfl) h
noncomputable def d94:D:=Y5 Tryd.prog 94 [(7,[]),(14,[])] [[34],[61]] []
noncomputable def F94 (a0 a1 a2:Value) (H:Y0) (nx:Nat) (k:EP):Prop:=
 D4 a0 fun t1=>
 D1 t1 2 fun t2=>
 G0 t2 none H fun t3=>
 W2 t3 a1 none 1 fun t4=>
 G0 t4 none H fun t5=>
 X3 t5 0 H fun t6=>
 K21 t6 t6 [.bool false,.slice none 0 0,.slice none 0 0] fun t7 t9 t10=>D2 (.cells t7 0) (.slice t9 t10) H nx fun t8 H1 nx1=>
 D4 a0 fun t11=>
 D1 t11 2 fun t12=>
 G0 t12 none H1 fun t13=>
 W2 t13 a1 none 1 fun t14=>
 G0 t14 none H1 fun t15=>
 Z39 t8 t15 3 H1 nx1 fun t16 H2 nx2=>
 W2 t8 a2 none 3 fun t17=>
 G0 t17 (some 3) H2 fun t18=>
 D2 (.cells [.bool false,.slice none 0 0,.slice none 0 0] 0) .ptr H2 nx2 fun t19 H3 nx3=>
 W3 t19 t18 3 H3 fun H4=>
 X3 t8 0 H4 fun t20=>
 B3 (fun t21 t22 H5 nx5=>
 J0 .lss (t22.getD 0 undef) t20 fun t23=>
 G2 t23 (
 B4 (fun t24=>
 W2 t8 (t22.getD 0 undef) none 3 fun t26=>
 G0 t26 (some 3) H5 fun t27=>
 Z1 Tryd.prog 31 [t27] H5 nx5 fun t28 H7 nx7=>
 J0 .neq t28 (.int .i64 0) fun t29=>
 G2 t29 (
 E2 (nx7+13) fun nx8=>
 W2 t8 (t22.getD 0 undef) none 3 fun t30=>
 G0 t30 (some 3) H7 fun t31=>
 G0 t19 (some 3) H7 fun t32=>
 Z1 Tryd.prog 98 [t31,t32] H7 nx8 fun t33 H9 nx9=>
 J5 t33 0 fun t34=>
 J5 t33 1 fun t35=>
 W2 t8 (t22.getD 0 undef) none 3 fun t36=>
 W3 t36 t34 3 H9 fun H10=>
 (((((True)/\((True)/\((G0 t19 (some 3) H7 fun t38=>t38=t32)/\True)))/\(((True)/\((True)/\((G0 t30 (some 3) H7 fun t37=>t37=t31)/\True)))/\True)))/\(
 t24 [] H10 nx9))\/False) (
 t24 [] H7 nx7)) (fun t25 H6 nx6=>
 J0 .add (t22.getD 0 undef) (.int .i64 1) fun t39=>
 t21 [t39] H6 nx6)) (
 D4 a0 fun t40=>
 D1 t40 2 fun t41=>
 G0 t41 none H5 fun t42=>
 X3 t42 0 H5 fun t43=>
 B3 (fun t44 t45 H11 nx11=>
 J0 .lss (t45.getD 0 undef) t43 fun t46=>
 G2 t46 (
 B4 (fun t47=>
 J0 .neq (t45.getD 0 undef) a1 fun t49=>
 G2 t49 (
 E2 (nx11+26) fun nx13=>
 D4 a0 fun t50=>
 D1 t50 2 fun t51=>
 G0 t51 none H11 fun t52=>
 D4 a0 fun t53=>
 D1 t53 2 fun t54=>
 G0 t54 none H11 fun t55=>
 W2 t55 (t45.getD 0 undef) none 1 fun t56=>
 G0 t56 none H11 fun t57=>
 D4 a0 fun t58=>
 D1 t58 2 fun t59=>
 G0 t59 none H11 fun t60=>
 W2 t60 (t45.getD 0 undef) none 1 fun t61=>
 G0 t61 none H11 fun t62=>
 W2 t62 a2 none 3 fun t63=>
 G0 t63 (some 3) H11 fun t64=>
 Z1 Tryd.prog 96 [t57,t8,t64] H11 nx13 fun t65 H14 nx14=>
 W2 t52 (t45.getD 0 undef) none 1 fun t66=>
 W3 t66 t65 1 H14 fun H15=>
 (((((True)/\((True)/\((G0 t63 (some 3) H11 fun t73=>t73=t64)/\True)))/\(((True)/\((True)/\((G0 t61 none H11 fun t72=>t72=t62)/\True)))/\(((True)/\((True)/\((G0 t59 none H11 fun t71=>t71=t60)/\True)))/\(((True)/\((True)/\((G0 t56 none H11 fun t70=>t70=t57)/\True)))/\(((True)/\((True)/\((G0 t54 none H11 fun t69=>t69=t55)/\True)))/\(((True)/\((G0 t51 none H14 fun t67=>t67=t52)/\((G0 t51 none H11 fun t68=>t68=t52)/\True)))/\True)))))))/\(
 t47 [] H15 nx14))\/False) (
 t47 [] H11 nx11)) (fun t48 H12 nx12=>
 J0 .add (t45.getD 0 undef) (.int .i64 1) fun t74=>
 t44 [t74] H12 nx12)) (
 E2 (nx11+17) fun nx16=>
 D4 a0 fun t75=>
 D1 t75 3 fun t76=>
 G0 t76 none H11 fun t77=>
 D4 a0 fun t78=>
 D1 t78 3 fun t79=>
 G0 t79 none H11 fun t80=>
 W2 t80 a2 none 3 fun t81=>
 G0 t81 (some 3) H11 fun t82=>
 Z1 Tryd.prog 96 [t77,t8,t82] H11 nx16 fun t83 H17 nx17=>
 D4 a0 fun t84=>
 D1 t84 3 fun t85=>
 W3 t85 t83 1 H17 fun H18=>
 (((((True)/\((True)/\((G0 t81 (some 3) H11 fun t88=>t88=t82)/\True)))/\(((True)/\((True)/\((G0 t79 none H11 fun t87=>t87=t80)/\True)))/\(((True)/\((True)/\((G0 t76 none H11 fun t86=>t86=t77)/\True)))/\True))))/\(
 D4 a0 fun t89=>
 D1 t89 2 fun t90=>
 G0 t90 none H18 fun t91=>
 W2 t91 a1 none 1 fun t92=>
 W3 t92 t8 1 H18 fun H19=>
 D4 a0 fun t93=>
 D1 t93 4 fun t94=>
 G0 t94 none H19 fun t95=>
 W2 t95 a1 none 1 fun t96=>
 W3 t96 a2 1 H19 fun H20=>
 W1 (.tuple ⟨[]⟩) fun t97=>k t97 H20 nx17))\/False)) [(.int .i64 0)] H5 nx5)) [(.int .i64 0)] H4 nx3
theorem spec94 (h:F94 a0 a1 a2 H nx k):J2 Tryd.prog 94 [a0,a1,a2] H nx k:=
 K2 mixed Z2 123 7 d94 [] (by kernel_rfl) (by kernel_rfl) (by simp) (by kernel_rfl) h
noncomputable def d97:D:=Y5 Tryd.prog 97 [(7,[5]),(13,[11]),(15,[68])] [[5,17]] [.one (.tst (.tst (.one (.one .nil)) (.one (.one .nil))) (.one (.one (.one .nil))))]
noncomputable def F97 (a0 a1:Value) (H:Y0) (nx:Nat) (k:EP):Prop:=
 D2 (.cells [.bool false,.slice none 0 0,.slice none 0 0] 0) .ptr H nx fun t1 H1 nx1=>
 D4 a0 fun t2=>
 D1 t2 2 fun t3=>
 G0 t3 none H1 fun t4=>
 X3 t4 0 H1 fun t5=>
 B3 (fun t6 t7 H2 nx2=>
 J0 .lss (t7.getD 1 undef) t5 fun t8=>
 G2 t8 (
 B4 (fun t9=>
 W2 t4 (t7.getD 1 undef) none 1 fun t11=>
 G0 t11 none H2 fun t12=>
 W2 t12 a1 none 3 fun t13=>
 G0 t13 (some 3) H2 fun t14=>
 Z1 Tryd.prog 31 [t14] H2 nx2 fun t15 H4 nx4=>
 J0 .leq t15 (.int .i64 0) fun t16=>
 G2 t16 (
 t9 [(t7.getD 0 undef)] H4 nx4) (
 E2 (nx4+16) fun nx5=>
 Z1 Tryd.prog 83 [a0] H4 nx5 fun t17 H6 nx6=>
 W2 t12 t17 none 3 fun t18=>
 G0 t18 (some 3) H6 fun t19=>
 W2 t12 a1 none 3 fun t20=>
 G0 t20 (some 3) H6 fun t21=>
 Z1 Tryd.prog 98 [t19,t21] H6 nx6 fun t22 H7 nx7=>
 J5 t22 0 fun t23=>
 J5 t22 1 fun t24=>
 wNm nx4 13 .ptr fun t25=>
 hsK H7 (nx4+13) (some (.cells [.bool false,.slice none 0 0,.slice none 0 0] 0)) fun H8=>W3 t25 t23 3 H8 fun H9=>
 (((((True)/\((True)/\((G0 t20 (some 3) H6 fun t28=>t28=t21)/\((G0 t20 (some 3) H4 fun t29=>t29=t21)/\True))))/\(((True)/\((True)/\((G0 t18 (some 3) H6 fun t27=>t27=t19)/\True)))/\True)))/\(
 B4 (fun t30=>
 J0 .geq (t7.getD 0 undef) (.int .i64 0) fun t32=>
 G2 t32 (
 G0 t25 (some 3) H9 fun t33=>
 G0 t1 (some 3) H9 fun t34=>
 Z1 Tryd.prog 9 [t33,t34] H9 nx7 fun t35 H11 nx11=>
 t30 [t35] H11 nx11) (
 t30 [(.int .i64 (-1))] H9 nx7)) (fun t31 H10 nx10=>
 B4 (fun t36=>
 E2 (nx10+23) fun nx13=>
 J0 .lss (t31.getD 0 undef) (.int .i64 0) fun t38=>
 J4 false t38 (
 J0 .eql (t31.getD 0 undef) (.int .i64 0) fun t39=>
 J4 true t39 (
 D4 a0 fun t40=>
 D1 t40 4 fun t41=>
 G0 t41 none H10 fun t42=>
 W2 t42 (t7.getD 1 undef) none 1 fun t43=>
 G0 t43 none H10 fun t44=>
 D4 a0 fun t45=>
 D1 t45 4 fun t46=>
 G0 t46 none H10 fun t47=>
 W2 t47 (t7.getD 0 undef) none 1 fun t48=>
 G0 t48 none H10 fun t49=>
 J0 .lss t44 t49 fun t50=>
 (((((G0 t48 none H10 fun t54=>t54=t49)/\True)/\(((G0 t46 none H10 fun t53=>t53=t47)/\True)/\(((G0 t43 none H10 fun t52=>t52=t44)/\True)/\(((G0 t41 none H10 fun t51=>t51=t42)/\True)/\True)))))/\(
 t36 [t50] H10 nx13))\/False) (
 ((True)/\(
 t36 [(.bool false)] H10 nx13))\/False)) (
 ((True)/\(
 t36 [(.bool true)] H10 nx13))\/False)) (fun t37 H12 nx12=>
 G2 (t37.getD 0 undef) (
 E2 (nx12+4) fun nx14=>
 G0 t25 (some 3) H12 fun t55=>
 W3 t1 t55 3 H12 fun H15=>
 (((((True)/\((G0 t25 (some 3) H12 fun t56=>t56=t55)/\True))/\True))/\(
 t9 [(t7.getD 1 undef)] H15 nx14))\/False) (
 t9 [(t7.getD 0 undef)] H12 nx12)))))\/False)) (fun t10 H3 nx3=>
 J0 .add (t7.getD 1 undef) (.int .i64 1) fun t57=>
 t6 [(t10.getD 0 undef),t57] H3 nx3)) (
 W1 (t7.getD 0 undef) fun t58=>k t58 H2 nx2)) [(.int .i64 (-1)),(.int .i64 0)] H1 nx1
theorem spec97 (h:F97 a0 a1 H nx k):J2 Tryd.prog 97 [a0,a1] H nx k:=
 K2 mixed Z2 73 7 d97 [(.s 4,none)] (by kernel_rfl) (by kernel_rfl) (by simp) (by kernel_rfl) h
noncomputable def d76:D:=Y5 Tryd.prog 76 [] [[20],[31]] []
noncomputable def F76 (a0:Value) (H:Y0) (nx:Nat) (k:EP):Prop:=
 R5 a0 fun t1=>D2 (.cells t1 0) .ptr H nx fun t2 H1 nx1=>
 D1 t2 0 fun t3=>
 G0 t3 none H1 fun t4=>
 X3 t4 0 H1 fun t5=>
 D1 t2 2 fun t6=>
 G0 t6 none H1 fun t7=>
 X3 t7 0 H1 fun t8=>
 M4 [.int .i64 0,.int .i64 0,.slice none 0 0,.slice none 0 0,.slice none 0 0] [(0,1),(1,1),(2,1),(3,1),(4,1)] [(0,t5),(1,t8)] fun t9=>
 R5 t9 fun t10=>D2 (.cells t10 0) .ptr H1 nx1 fun t11 H2 nx2=>
 D1 t2 1 fun t12=>
 G0 t12 none H2 fun t13=>
 X3 t13 0 H2 fun t14=>
 B3 (fun t15 t16 H3 nx3=>
 J0 .lss (t16.getD 0 undef) t14 fun t17=>
 G2 t17 (
 W2 t13 (t16.getD 0 undef) none 1 fun t18=>
 G0 t18 none H3 fun t19=>
 Z1 Tryd.prog 83 [t11] H3 nx3 fun t20 H4 nx4=>
 J0 .add t20 (.int .i64 1) fun t21=>
 Z1 Tryd.prog 92 [t21] H4 nx4 fun t22 H5 nx5=>
 X3 t19 0 H5 fun t23=>
 B3 (fun t24 t25 H6 nx6=>
 J0 .lss (t25.getD 0 undef) t23 fun t26=>
 G2 t26 (
 W2 t19 (t25.getD 0 undef) none 3 fun t27=>
 G0 t27 (some 3) H6 fun t28=>
 D2 (.cells [.bool false,.slice none 0 0,.slice none 0 0] 0) .ptr H6 nx6 fun t29 H7 nx7=>
 W3 t29 t28 3 H7 fun H8=>
 G0 t29 (some 3) H8 fun t30=>
 Z1 Tryd.prog 36 [t30] H8 nx7 fun t31 H9 nx9=>
 W2 t22 (t25.getD 0 undef) none 3 fun t32=>
 W3 t32 t31 3 H9 fun H10=>
 J0 .add (t25.getD 0 undef) (.int .i64 1) fun t33=>
 t24 [t33] H10 nx9) (
 E2 (nx6+10) fun nx11=>
 D4 t11 fun t34=>
 D1 t34 0 fun t35=>
 G0 t35 none H6 fun t36=>
 J0 .add t36 (t16.getD 0 undef) fun t37=>
 Z1 Tryd.prog 10 [(.int .i64 1)] H6 nx11 fun t38 H12 nx12=>
 W2 t22 t37 none 3 fun t39=>
 W3 t39 t38 3 H12 fun H13=>
 (((((True)/\((G0 t35 none H12 fun t40=>t40=t36)/\((G0 t35 none H6 fun t41=>t41=t36)/\True)))/\True))/\(
 Z1 Tryd.prog 93 [t11] H13 nx12 fun t42 H14 nx14=>
 Z1 Tryd.prog 10 [(.int .i64 (-1))] H14 nx14 fun t43 H15 nx15=>
 W2 t22 t42 none 3 fun t44=>
 W3 t44 t43 3 H15 fun H16=>
 E2 (nx15+11) fun nx17=>
 Z1 Tryd.prog 83 [t11] H16 nx17 fun t45 H18 nx18=>
 D1 t2 2 fun t46=>
 G0 t46 none H18 fun t47=>
 W2 t47 (t16.getD 0 undef) none 3 fun t48=>
 G0 t48 (some 3) H18 fun t49=>
 Z1 Tryd.prog 36 [t49] H18 nx18 fun t50 H19 nx19=>
 W2 t22 t45 none 3 fun t51=>
 W3 t51 t50 3 H19 fun H20=>
 (((((True)/\((True)/\((G0 t48 (some 3) H18 fun t54=>t54=t49)/\((G0 t48 (some 3) H16 fun t55=>t55=t49)/\True))))/\(((True)/\((True)/\((G0 t46 none H18 fun t52=>t52=t47)/\((G0 t46 none H16 fun t53=>t53=t47)/\True))))/\True)))/\(
 D4 t11 fun t56=>
 D1 t56 2 fun t57=>
 G0 t57 none H20 fun t58=>
 G7 1 1 [.slice none 0 0] [(0,t22)] fun t59=>D2 (.cells t59 0) (.slice 1 1) H20 nx19 fun t60 H21 nx21=>
 U7 t58 t60 1 24 H21 nx21 fun t61 H22 nx22=>
 D4 t11 fun t62=>
 D1 t62 2 fun t63=>
 W3 t63 t61 1 H22 fun H23=>
 E2 (nx22+16) fun nx24=>
 D4 t11 fun t64=>
 D1 t64 4 fun t65=>
 G0 t65 none H23 fun t66=>
 D4 t11 fun t67=>
 D1 t67 0 fun t68=>
 G0 t68 none H23 fun t69=>
 J0 .add t69 (t16.getD 0 undef) fun t70=>
 G7 1 1 [.int .i64 0] [(0,t70)] fun t72=>wNm nx22 11 (.slice 1 1) fun t71=>
 hsK H23 (nx22+11) (some (.cells t72 0)) fun H25=>U7 t66 t71 1 8 H25 nx24 fun t73 H26 nx26=>
 D4 t11 fun t74=>
 D1 t74 4 fun t75=>
 W3 t75 t73 1 H26 fun H27=>
 (((((True)/\((True)/\((G0 t68 none H23 fun t77=>t77=t69)/\True)))/\(((True)/\((True)/\((G0 t65 none H23 fun t76=>t76=t66)/\True)))/\True)))/\(
 J0 .add (t16.getD 0 undef) (.int .i64 1) fun t78=>
 t15 [t78] H27 nx26))\/False))\/False))\/False)) [(.int .i64 0)] H5 nx5) (
 W1 t11 fun t79=>k t79 H3 nx3)) [(.int .i64 0)] H2 nx2
theorem spec76 (h:F76 a0 H nx k):J2 Tryd.prog 76 [a0] H nx k:=
 K2 mixed Z2 93 7 d76 [(.s 2,none)] (by kernel_rfl) (by kernel_rfl) (by simp) (by kernel_rfl) h
noncomputable def d77:D:=Y5 Tryd.prog 77 [(6,[3]),(9,[47]),(24,[]),(31,[118])] [[3,15],[91],[98]] [.one (.tst (.tst (.one (.one .nil)) (.one (.one .nil))) (.one (.one (.one .nil)))),.one (.tst (.one .nil) (.one .nil))]
noncomputable def F77 (a0:Value) (H:Y0) (nx:Nat) (k:EP):Prop:=
 D4 a0 fun t1=>
 D1 t1 2 fun t2=>
 G0 t2 none H fun t3=>
 X3 t3 0 H fun t4=>
 B3 (fun t5 t6 H1 nx1=>
 J0 .lss (t6.getD 1 undef) t4 fun t7=>
 G2 t7 (
 B4 (fun t8=>
 W2 t3 (t6.getD 1 undef) none 1 fun t10=>
 G0 t10 none H1 fun t11=>
 Z1 Tryd.prog 83 [a0] H1 nx1 fun t12 H3 nx3=>
 W2 t11 t12 none 3 fun t13=>
 G0 t13 (some 3) H3 fun t14=>
 D2 (.cells [.bool false,.slice none 0 0,.slice none 0 0] 0) .ptr H3 nx3 fun t15 H4 nx4=>
 W3 t15 t14 3 H4 fun H5=>
 B4 (fun t16=>
 E2 (nx4+23) fun nx7=>
 G0 t15 (some 3) H5 fun t18=>
 Z1 Tryd.prog 31 [t18] H5 nx7 fun t19 H8 nx8=>
 J0 .lss t19 (.int .i64 0) fun t20=>
 J4 true t20 (
 J0 .lss (t6.getD 0 undef) (.int .i64 0) fun t21=>
 J4 false t21 (
 G0 t15 (some 3) H8 fun t22=>
 D4 a0 fun t23=>
 D1 t23 2 fun t24=>
 G0 t24 none H8 fun t25=>
 W2 t25 (t6.getD 0 undef) none 1 fun t26=>
 G0 t26 none H8 fun t27=>
 Z1 Tryd.prog 83 [a0] H8 nx8 fun t28 H9 nx9=>
 W2 t27 t28 none 3 fun t29=>
 G0 t29 (some 3) H9 fun t30=>
 Z1 Tryd.prog 9 [t22,t30] H9 nx9 fun t31 H10 nx10=>
 J0 .lss t31 (.int .i64 0) fun t32=>
 (((((True)/\((G0 t29 (some 3) H9 fun t40=>t40=t30)/\True))/\(((True)/\((G0 t26 none H9 fun t38=>t38=t27)/\((G0 t26 none H8 fun t39=>t39=t27)/\True)))/\(((True)/\((G0 t24 none H9 fun t36=>t36=t25)/\((G0 t24 none H8 fun t37=>t37=t25)/\True)))/\(((True)/\((G0 t15 (some 3) H9 fun t34=>t34=t22)/\((G0 t15 (some 3) H8 fun t35=>t35=t22)/\True)))/\(((True)/\((True)/\((True)/\((G0 t15 (some 3) H5 fun t33=>t33=t18)/\True))))/\True))))))/\(
 t16 [t32] H10 nx10))\/False) (
 (((((True)/\((G0 t15 (some 3) H5 fun t41=>t41=t18)/\True))/\True))/\(
 t16 [(.bool true)] H8 nx8))\/False)) (
 (((((True)/\((G0 t15 (some 3) H5 fun t42=>t42=t18)/\True))/\True))/\(
 t16 [(.bool false)] H8 nx8))\/False)) (fun t17 H6 nx6=>
 G2 (t17.getD 0 undef) (
 t8 [(t6.getD 1 undef)] H6 nx6) (
 t8 [(t6.getD 0 undef)] H6 nx6))) (fun t9 H2 nx2=>
 J0 .add (t6.getD 1 undef) (.int .i64 1) fun t43=>
 t5 [(t9.getD 0 undef),t43] H2 nx2)) (
 J0 .lss (t6.getD 0 undef) (.int .i64 0) fun t44=>
 G2 t44 (
 W1 (.bool true) fun t45=>k t45 H1 nx1) (
 Z1 Tryd.prog 83 [a0] H1 nx1 fun t46 H11 nx11=>
 J0 .add t46 (.int .i64 1) fun t47=>
 Z1 Tryd.prog 92 [t47] H11 nx11 fun t48 H12 nx12=>
 D4 a0 fun t49=>
 D1 t49 3 fun t50=>
 W3 t50 t48 1 H12 fun H13=>
 E2 (nx12+9) fun nx14=>
 D4 a0 fun t51=>
 D1 t51 3 fun t52=>
 G0 t52 none H13 fun t53=>
 Z1 Tryd.prog 93 [a0] H13 nx14 fun t54 H15 nx15=>
 Z1 Tryd.prog 10 [(.int .i64 1)] H15 nx15 fun t55 H16 nx16=>
 W2 t53 t54 none 3 fun t56=>
 W3 t56 t55 3 H16 fun H17=>
 (((((True)/\((G0 t52 none H16 fun t57=>t57=t53)/\((G0 t52 none H15 fun t58=>t58=t53)/\((G0 t52 none H13 fun t59=>t59=t53)/\True))))/\True))/\(
 Z1 Tryd.prog 93 [a0] H17 nx16 fun t60 H18 nx18=>
 Z1 Tryd.prog 94 [a0,(t6.getD 0 undef),t60] H18 nx18 fun t61 H19 nx19=>
 Z1 Tryd.prog 83 [a0] H19 nx19 fun t62 H20 nx20=>
 Z1 Tryd.prog 80 [a0,t62] H20 nx20 fun t63 H21 nx21=>
 E2 (nx21+10) fun nx22=>
 D4 a0 fun t64=>
 D1 t64 3 fun t65=>
 G0 t65 none H21 fun t66=>
 Z1 Tryd.prog 83 [a0] H21 nx22 fun t67 H23 nx23=>
 W2 t66 t67 none 3 fun t68=>
 G0 t68 (some 3) H23 fun t69=>
 Z1 Tryd.prog 31 [t69] H23 nx23 fun t70 H24 nx24=>
 J0 .lss t70 (.int .i64 0) fun t71=>
 (((((True)/\((G0 t68 (some 3) H23 fun t74=>t74=t69)/\True))/\(((True)/\((G0 t65 none H23 fun t72=>t72=t66)/\((G0 t65 none H21 fun t73=>t73=t66)/\True)))/\True)))/\(
 G2 t71 (
 W1 (.bool false) fun t75=>k t75 H24 nx24) (
 D4 a0 fun t76=>
 D1 t76 4 fun t77=>
 G0 t77 none H24 fun t78=>
 X3 t78 0 H24 fun t79=>
 B3 (fun t80 t81 H25 nx25=>
 J0 .lss (t81.getD 0 undef) t79 fun t82=>
 G2 t82 (
 B4 (fun t83=>
 W2 t78 (t81.getD 0 undef) none 1 fun t85=>
 G0 t85 none H25 fun t86=>
 Z1 Tryd.prog 93 [a0] H25 nx25 fun t87 H27 nx27=>
 B3 (fun t88 t89 H28 nx28=>
 J0 .lss (t89.getD 0 undef) t87 fun t90=>
 G2 t90 (
 B4 (fun t91=>
 Z1 Tryd.prog 93 [a0] H28 nx28 fun t93 H30 nx30=>
 J0 .eql t86 t93 fun t94=>
 J4 true t94 (
 D4 a0 fun t95=>
 D1 t95 2 fun t96=>
 G0 t96 none H30 fun t97=>
 W2 t97 (t81.getD 0 undef) none 1 fun t98=>
 G0 t98 none H30 fun t99=>
 W2 t99 (t89.getD 0 undef) none 3 fun t100=>
 G0 t100 (some 3) H30 fun t101=>
 Z1 Tryd.prog 31 [t101] H30 nx30 fun t102 H31 nx31=>
 J0 .neq t102 (.int .i64 0) fun t103=>
 t91 [t103] H31 nx31) (
 t91 [(.bool false)] H30 nx30)) (fun t92 H29 nx29=>
 G2 (t92.getD 0 undef) (
 Z1 Tryd.prog 94 [a0,(t81.getD 0 undef),(t89.getD 0 undef)] H29 nx29 fun t104 H32 nx32=>
 t83 [] H32 nx32) (
 J0 .add (t89.getD 0 undef) (.int .i64 1) fun t105=>
 t88 [t105] H29 nx29))) (
 t83 [] H28 nx28)) [(.int .i64 0)] H27 nx27) (fun t84 H26 nx26=>
 J0 .add (t81.getD 0 undef) (.int .i64 1) fun t106=>
 t80 [t106] H26 nx26)) (
 W1 (.bool true) fun t107=>k t107 H25 nx25)) [(.int .i64 0)] H24 nx24)))\/False))\/False))) [(.int .i64 (-1)),(.int .i64 0)] H nx
theorem spec77 (h:F77 a0 H nx k):J2 Tryd.prog 77 [a0] H nx k:=
 K2 mixed Z2 125 7 d77 [(.s 2,none)] (by kernel_rfl) (by kernel_rfl) (by simp) (by kernel_rfl) h
noncomputable def d78:D:=Y5 Tryd.prog 78 [] [] []
noncomputable def F78 (a0:Value) (H:Y0) (nx:Nat) (k:EP):Prop:=
 D4 a0 fun t1=>
 D1 t1 1 fun t2=>
 G0 t2 none H fun t3=>
 Z1 Tryd.prog 92 [t3] H nx fun t4 H1 nx1=>
 E2 (nx1+20) fun nx2=>
 D4 a0 fun t5=>
 D1 t5 3 fun t6=>
 G0 t6 none H1 fun t7=>
 D4 a0 fun t8=>
 D1 t8 0 fun t9=>
 G0 t9 none H1 fun t10=>
 D4 a0 fun t11=>
 D1 t11 0 fun t12=>
 G0 t12 none H1 fun t13=>
 D4 a0 fun t14=>
 D1 t14 1 fun t15=>
 G0 t15 none H1 fun t16=>
 J0 .add t13 t16 fun t17=>
 wSl t7 3 (some t10) (some t17) none H1 fun t18=>
 Z39 t4 t18 3 H1 nx2 fun t19 H3 nx3=>
 (((((True)/\((wSl t7 3 (some t10) (some t17) none H1 fun t24=>t24=t18)/\True))/\(((True)/\((G0 t15 none H1 fun t23=>t23=t16)/\True))/\(((True)/\((G0 t12 none H1 fun t22=>t22=t13)/\True))/\(((True)/\((G0 t9 none H1 fun t21=>t21=t10)/\True))/\(((True)/\((G0 t6 none H1 fun t20=>t20=t7)/\True))/\True))))))/\(
 W1 t4 fun t25=>k t25 H3 nx3))\/False
theorem spec78 (h:F78 a0 H nx k):J2 Tryd.prog 78 [a0] H nx k:=
 K2 mixed Z2 30 5 d78 [(.s 2,none)] (by kernel_rfl) (by kernel_rfl) (by simp) (by kernel_rfl) h
noncomputable def d79:D:=Y5 Tryd.prog 79 [(10,[])] [[16],[36]] []
noncomputable def F79 (a0 a1:Value) (H:Y0) (nx:Nat) (k:EP):Prop:=
 Z1 Tryd.prog 83 [a0] H nx fun t1 H1 nx1=>
 J0 .add t1 (.int .i64 1) fun t2=>
 Z1 Tryd.prog 92 [t2] H1 nx1 fun t3 H2 nx2=>
 D4 a0 fun t4=>
 D1 t4 3 fun t5=>
 W3 t5 t3 1 H2 fun H3=>
 X3 a1 0 H3 fun t6=>
 B3 (fun t7 t8 H4 nx4=>
 J0 .lss (t8.getD 0 undef) t6 fun t9=>
 G2 t9 (
 E2 (nx4+12) fun nx5=>
 D4 a0 fun t10=>
 D1 t10 3 fun t11=>
 G0 t11 none H4 fun t12=>
 W2 a1 (t8.getD 0 undef) none 3 fun t13=>
 G0 t13 (some 3) H4 fun t14=>
 Z1 Tryd.prog 95 [t14] H4 nx5 fun t15 H6 nx6=>
 W2 t12 (t8.getD 0 undef) none 3 fun t16=>
 W3 t16 t15 3 H6 fun H7=>
 (((((True)/\((True)/\((G0 t13 (some 3) H4 fun t19=>t19=t14)/\True)))/\(((True)/\((G0 t11 none H6 fun t17=>t17=t12)/\((G0 t11 none H4 fun t18=>t18=t12)/\True)))/\True)))/\(
 J0 .add (t8.getD 0 undef) (.int .i64 1) fun t20=>
 t7 [t20] H7 nx6))\/False) (
 D4 a0 fun t21=>
 D1 t21 4 fun t22=>
 G0 t22 none H4 fun t23=>
 X3 t23 0 H4 fun t24=>
 B3 (fun t25 t26 H8 nx8=>
 J0 .lss (t26.getD 0 undef) t24 fun t27=>
 G2 t27 (
 B4 (fun t28=>
 W2 t23 (t26.getD 0 undef) none 1 fun t30=>
 G0 t30 none H8 fun t31=>
 D4 a0 fun t32=>
 D1 t32 0 fun t33=>
 G0 t33 none H8 fun t34=>
 J0 .lss t31 t34 fun t35=>
 G2 t35 (
 E2 (nx8+21) fun nx10=>
 D4 a0 fun t36=>
 D1 t36 3 fun t37=>
 G0 t37 none H8 fun t38=>
 D4 a0 fun t39=>
 D1 t39 2 fun t40=>
 G0 t40 none H8 fun t41=>
 W2 t41 (t26.getD 0 undef) none 1 fun t42=>
 G0 t42 none H8 fun t43=>
 W2 a1 t31 none 3 fun t44=>
 G0 t44 (some 3) H8 fun t45=>
 Z1 Tryd.prog 95 [t45] H8 nx10 fun t46 H11 nx11=>
 Z1 Tryd.prog 96 [t38,t43,t46] H11 nx11 fun t47 H12 nx12=>
 D4 a0 fun t48=>
 D1 t48 3 fun t49=>
 W3 t49 t47 1 H12 fun H13=>
 (((((True)/\((True)/\((True)/\((G0 t44 (some 3) H8 fun t56=>t56=t45)/\True))))/\(((True)/\((True)/\((G0 t42 none H11 fun t54=>t54=t43)/\((G0 t42 none H8 fun t55=>t55=t43)/\True))))/\(((True)/\((True)/\((G0 t40 none H11 fun t52=>t52=t41)/\((G0 t40 none H8 fun t53=>t53=t41)/\True))))/\(((True)/\((True)/\((G0 t37 none H11 fun t50=>t50=t38)/\((G0 t37 none H8 fun t51=>t51=t38)/\True))))/\True)))))/\(
 t28 [] H13 nx12))\/False) (
 t28 [] H8 nx8)) (fun t29 H9 nx9=>
 J0 .add (t26.getD 0 undef) (.int .i64 1) fun t57=>
 t25 [t57] H9 nx9)) (
 W1 (.tuple ⟨[]⟩) fun t58=>k t58 H8 nx8)) [(.int .i64 0)] H4 nx4)) [(.int .i64 0)] H3 nx2
theorem spec79 (h:F79 a0 a1 H nx k):J2 Tryd.prog 79 [a0,a1] H nx k:=
 K2 mixed Z2 68 7 d79 [] (by kernel_rfl) (by kernel_rfl) (by simp) (by kernel_rfl) h
noncomputable def d80:D:=Y5 Tryd.prog 80 [] [[],[9]] []
noncomputable def F80 (a0 a1:Value) (H:Y0) (nx:Nat) (k:EP):Prop:=
 B3 (fun t1 t2 H1 nx1=>
 B3 (fun t3 t4 H2 nx2=>
 J0 .lss (t4.getD 0 undef) a1 fun t5=>
 G2 t5 (
 D4 a0 fun t6=>
 D1 t6 3 fun t7=>
 G0 t7 none H2 fun t8=>
 W2 t8 (t4.getD 0 undef) none 3 fun t9=>
 G0 t9 (some 3) H2 fun t10=>
 Z1 Tryd.prog 31 [t10] H2 nx2 fun t11 H3 nx3=>
 J0 .geq t11 (.int .i64 0) fun t12=>
 G2 t12 (
 J0 .add (t4.getD 0 undef) (.int .i64 1) fun t13=>
 t3 [t13] H3 nx3) (
 Z1 Tryd.prog 97 [a0,(t4.getD 0 undef)] H3 nx3 fun t14 H4 nx4=>
 J0 .lss t14 (.int .i64 0) fun t15=>
 G2 t15 (
 W1 (.tuple ⟨[(t4.getD 0 undef),(.bool false)]⟩) fun t16=>k t16 H4 nx4) (
 Z1 Tryd.prog 94 [a0,t14,(t4.getD 0 undef)] H4 nx4 fun t17 H5 nx5=>
 t1 [] H5 nx5))) (
 W1 (.tuple ⟨[(.int .i64 0),(.bool true)]⟩) fun t18=>k t18 H2 nx2)) [(.int .i64 0)] H1 nx1) [] H nx
theorem spec80 (h:F80 a0 a1 H nx k):J2 Tryd.prog 80 [a0,a1] H nx k:=
 K2 mixed Z2 32 6 d80 [(.s 4,none),(.s 5,none)] (by kernel_rfl) (by kernel_rfl) (by simp) (by kernel_rfl) h
noncomputable def d81:D:=Y5 Tryd.prog 81 [(6,[])] [[16]] []
noncomputable def F81 (a0:Value) (H:Y0) (nx:Nat) (k:EP):Prop:=
 D4 a0 fun t1=>
 D1 t1 0 fun t2=>
 G0 t2 none H fun t3=>
 Z1 Tryd.prog 92 [t3] H nx fun t4 H1 nx1=>
 D4 a0 fun t5=>
 D1 t5 4 fun t6=>
 G0 t6 none H1 fun t7=>
 X3 t7 0 H1 fun t8=>
 B3 (fun t9 t10 H2 nx2=>
 J0 .lss (t10.getD 0 undef) t8 fun t11=>
 G2 t11 (
 B4 (fun t12=>
 W2 t7 (t10.getD 0 undef) none 1 fun t14=>
 G0 t14 none H2 fun t15=>
 D4 a0 fun t16=>
 D1 t16 0 fun t17=>
 G0 t17 none H2 fun t18=>
 J0 .lss t15 t18 fun t19=>
 G2 t19 (
 E2 (nx2+15) fun nx4=>
 D4 a0 fun t20=>
 D1 t20 2 fun t21=>
 G0 t21 none H2 fun t22=>
 W2 t22 (t10.getD 0 undef) none 1 fun t23=>
 G0 t23 none H2 fun t24=>
 Z1 Tryd.prog 83 [a0] H2 nx4 fun t25 H5 nx5=>
 W2 t24 t25 none 3 fun t26=>
 G0 t26 (some 3) H5 fun t27=>
 W2 t4 t15 none 3 fun t28=>
 W3 t28 t27 3 H5 fun H6=>
 (((((True)/\((G0 t26 (some 3) H5 fun t33=>t33=t27)/\True))/\(((True)/\((G0 t23 none H5 fun t31=>t31=t24)/\((G0 t23 none H2 fun t32=>t32=t24)/\True)))/\(((True)/\((G0 t21 none H5 fun t29=>t29=t22)/\((G0 t21 none H2 fun t30=>t30=t22)/\True)))/\True))))/\(
 t12 [] H6 nx5))\/False) (
 t12 [] H2 nx2)) (fun t13 H3 nx3=>
 J0 .add (t10.getD 0 undef) (.int .i64 1) fun t34=>
 t9 [t34] H3 nx3)) (
 W1 t4 fun t35=>k t35 H2 nx2)) [(.int .i64 0)] H1 nx1
theorem spec81 (h:F81 a0 H nx k):J2 Tryd.prog 81 [a0] H nx k:=
 K2 mixed Z2 43 6 d81 [(.s 2,none)] (by kernel_rfl) (by kernel_rfl) (by simp) (by kernel_rfl) h
noncomputable def d63:D:=Y5 Tryd.prog 63 [(5,[20])] [] [.one (.tst (.one .nil) (.one .nil))]
noncomputable def F63 (a0:Value) (H:Y0) (nx:Nat) (k:EP):Prop:=
 R5 a0 fun t1=>D2 (.cells t1 0) .ptr H nx fun t2 H1 nx1=>
 D2 (.cells [.int .i64 0,.slice none 0 0,.slice none 0 0,.slice none 0 0,.bool false,.slice none 0 0,.slice none 0 0] 0) .ptr H1 nx1 fun t3 H2 nx2=>
 G0 t2 (some 3) H2 fun t4=>
 Z1 Tryd.prog 75 [t4] H2 nx2 fun t5 H3 nx3=>
 wUn .not t5 fun t6=>
 G2 t6 (
 M4 [.int .i64 0,.slice none 0 0,.slice none 0 0,.slice none 0 0,.bool false,.slice none 0 0,.slice none 0 0] [(0,1),(1,1),(2,1),(3,1),(4,3)] [] fun t7=>
 W3 t3 t7 7 H3 fun H4=>
 G0 t3 (some 7) H4 fun t8=>
 W1 (.tuple ⟨[t8,(.int .i64 1)]⟩) fun t9=>k t9 H4 nx3) (
 B4 (fun t10=>
 D1 t2 0 fun t12=>
 G0 t12 none H3 fun t13=>
 X3 t13 0 H3 fun t14=>
 J0 .gtr t14 (.int .i64 64) fun t15=>
 J4 false t15 (
 D1 t2 2 fun t16=>
 G0 t16 none H3 fun t17=>
 X3 t17 0 H3 fun t18=>
 J0 .gtr t18 (.int .i64 64) fun t19=>
 t10 [t19] H3 nx3) (
 t10 [(.bool true)] H3 nx3)) (fun t11 H5 nx5=>
 G2 (t11.getD 0 undef) (
 M4 [.int .i64 0,.slice none 0 0,.slice none 0 0,.slice none 0 0,.bool false,.slice none 0 0,.slice none 0 0] [(0,1),(1,1),(2,1),(3,1),(4,3)] [] fun t20=>
 W3 t3 t20 7 H5 fun H6=>
 G0 t3 (some 7) H6 fun t21=>
 W1 (.tuple ⟨[t21,(.int .i64 12)]⟩) fun t22=>k t22 H6 nx5) (
 G0 t2 (some 3) H5 fun t23=>
 Z1 Tryd.prog 76 [t23] H5 nx5 fun t24 H7 nx7=>
 Z1 Tryd.prog 77 [t24] H7 nx7 fun t25 H8 nx8=>
 wUn .not t25 fun t26=>
 G2 t26 (
 Z1 Tryd.prog 78 [t24] H8 nx8 fun t27 H9 nx9=>
 Z1 Tryd.prog 10 [(.int .i64 0)] H9 nx9 fun t28 H10 nx10=>
 M4 [.int .i64 0,.slice none 0 0,.slice none 0 0,.slice none 0 0,.bool false,.slice none 0 0,.slice none 0 0] [(0,1),(1,1),(2,1),(3,1),(4,3)] [(0,(.int .i64 1)),(2,t27),(4,t28)] fun t29=>
 W3 t3 t29 7 H10 fun H11=>
 G0 t3 (some 7) H11 fun t30=>
 W1 (.tuple ⟨[t30,(.int .i64 0)]⟩) fun t31=>k t31 H11 nx10) (
 D1 t2 0 fun t32=>
 G0 t32 none H8 fun t33=>
 Z1 Tryd.prog 79 [t24,t33] H8 nx8 fun t34 H12 nx12=>
 E2 (nx12+16) fun nx13=>
 D4 t24 fun t35=>
 D1 t35 0 fun t36=>
 G0 t36 none H12 fun t37=>
 D4 t24 fun t38=>
 D1 t38 1 fun t39=>
 G0 t39 none H12 fun t40=>
 J0 .add t37 t40 fun t41=>
 Z1 Tryd.prog 80 [t24,t41] H12 nx13 fun t42 H14 nx14=>
 J5 t42 0 fun t43=>
 J5 t42 1 fun t44=>
 (((((True)/\((G0 t39 none H12 fun t46=>t46=t40)/\True))/\(((True)/\((G0 t36 none H12 fun t45=>t45=t37)/\True))/\True)))/\(
 wUn .not t44 fun t47=>
 G2 t47 (
 Z1 Tryd.prog 81 [t24] H14 nx14 fun t48 H15 nx15=>
 Z1 Tryd.prog 82 [t24,t43] H15 nx15 fun t49 H16 nx16=>
 Z1 Tryd.prog 10 [(.int .i64 0)] H16 nx16 fun t50 H17 nx17=>
 M4 [.int .i64 0,.slice none 0 0,.slice none 0 0,.slice none 0 0,.bool false,.slice none 0 0,.slice none 0 0] [(0,1),(1,1),(2,1),(3,1),(4,3)] [(0,(.int .i64 2)),(1,t48),(3,t49),(4,t50)] fun t51=>
 W3 t3 t51 7 H17 fun H18=>
 G0 t3 (some 7) H18 fun t52=>
 W1 (.tuple ⟨[t52,(.int .i64 0)]⟩) fun t53=>k t53 H18 nx17) (
 E2 (nx14+15) fun nx19=>
 Z1 Tryd.prog 81 [t24] H14 nx19 fun t54 H20 nx20=>
 Z1 Tryd.prog 78 [t24] H20 nx20 fun t55 H21 nx21=>
 D4 t24 fun t56=>
 D1 t56 3 fun t57=>
 G0 t57 none H21 fun t58=>
 Z1 Tryd.prog 83 [t24] H21 nx21 fun t59 H22 nx22=>
 W2 t58 t59 none 3 fun t60=>
 G0 t60 (some 3) H22 fun t61=>
 M4 [.int .i64 0,.slice none 0 0,.slice none 0 0,.slice none 0 0,.bool false,.slice none 0 0,.slice none 0 0] [(0,1),(1,1),(2,1),(3,1),(4,3)] [(0,(.int .i64 0)),(1,t54),(2,t55),(4,t61)] fun t62=>
 W3 t3 t62 7 H22 fun H23=>
 (((((True)/\((G0 t60 (some 3) H22 fun t67=>t67=t61)/\True))/\(((True)/\((G0 t57 none H22 fun t63=>t63=t58)/\((G0 t57 none H21 fun t64=>t64=t58)/\((G0 t57 none H20 fun t65=>t65=t58)/\((G0 t57 none H14 fun t66=>t66=t58)/\True)))))/\True)))/\(
 G0 t3 (some 7) H23 fun t68=>
 W1 (.tuple ⟨[t68,(.int .i64 0)]⟩) fun t69=>k t69 H23 nx22))\/False)))\/False))))
theorem spec63 (h:F63 a0 H nx k):J2 Tryd.prog 63 [a0] H nx k:=
 K2 mixed Z2 71 7 d63 [(.s 2,some (some 7)),(.s 3,none)] (by kernel_rfl) (by kernel_rfl) (by simp) (by kernel_rfl) h
noncomputable def d61:D:=Y5 Tryd.prog 61 [] [] []
noncomputable def F61 (a0:Value) (H:Y0) (nx:Nat) (k:EP):Prop:=
 R5 a0 fun t1=>D2 (.cells t1 0) .ptr H nx fun t2 H1 nx1=>
 D1 t2 0 fun t3=>
 G0 t3 none H1 fun t4=>
 J0 .shl (.int .u64 1) t4 fun t5=>
 J0 .sub t5 (.int .u64 1) fun t6=>
 M3 .u32 t6 fun t7=>
 W1 t7 fun t8=>k t8 H1 nx1
theorem spec61 (h:F61 a0 H nx k):J2 Tryd.prog 61 [a0] H nx k:=
 K2 mixed Z2 8 4 d61 [(.s 2,none)] (by kernel_rfl) (by kernel_rfl) (by simp) (by kernel_rfl) h
noncomputable def d64:D:=Y5 Tryd.prog 64 [] [[9]] []
noncomputable def F64 (a0:Value) (H:Y0) (nx:Nat) (k:EP):Prop:=
 K21 a0 a0 [.bool false,.slice none 0 0,.slice none 0 0] fun t1 t3 t4=>D2 (.cells t1 0) (.slice t3 t4) H nx fun t2 H1 nx1=>
 X3 t2 0 H1 fun t5=>
 B3 (fun t6 t7 H2 nx2=>
 J0 .lss (t7.getD 0 undef) t5 fun t8=>
 G2 t8 (
 Z1 Tryd.prog 10 [(.int .i64 0)] H2 nx2 fun t9 H3 nx3=>
 W2 t2 (t7.getD 0 undef) none 3 fun t10=>
 W3 t10 t9 3 H3 fun H4=>
 J0 .add (t7.getD 0 undef) (.int .i64 1) fun t11=>
 t6 [t11] H4 nx3) (
 W1 t2 fun t12=>k t12 H2 nx2)) [(.int .i64 0)] H1 nx1
theorem spec64 (h:F64 a0 H nx k):J2 Tryd.prog 64 [a0] H nx k:=
 K2 mixed Z2 18 5 d64 [(.s 2,none)] (by kernel_rfl) (by kernel_rfl) (by simp) (by kernel_rfl) h
noncomputable def d62:D:=Y5 Tryd.prog 62 [(7,[8]),(16,[9]),(20,[57])] [[8,20],[9,43],[15,66]] [.one (.tst (.one .nil) (.one .nil))]
noncomputable def F62 (a0 a1:Value) (H:Y0) (nx:Nat) (k:EP):Prop:=
 R5 a0 fun t1=>D2 (.cells t1 0) .ptr H nx fun t2 H1 nx1=>
 D2 (.cells [.slice none 0 0,.slice none 0 0,.slice none 0 0] 0) .ptr H1 nx1 fun t3 H2 nx2=>
 D2 (.cells [.slice none 0 0,.slice none 0 0,.slice none 0 0] 0) .ptr H2 nx2 fun t4 H3 nx3=>
 D1 t2 0 fun t5=>
 G0 t5 none H3 fun t6=>
 B3 (fun t7 t8 H4 nx4=>
 J0 .lss (t8.getD 1 undef) t6 fun t9=>
 G2 t9 (
 B4 (fun t10=>
 J0 .shr a1 (t8.getD 1 undef) fun t12=>
 J0 .and t12 (.int .u32 1) fun t13=>
 J0 .eql t13 (.int .u32 1) fun t14=>
 G2 t14 (
 G7 1 1 [.int .i64 0] [(0,(t8.getD 1 undef))] fun t15=>D2 (.cells t15 0) (.slice 1 1) H4 nx4 fun t16 H6 nx6=>
 U7 (t8.getD 0 undef) t16 1 8 H6 nx6 fun t17 H7 nx7=>
 E2 (nx7+7) fun nx8=>
 D1 t4 0 fun t18=>
 G0 t18 none H7 fun t19=>
 Z1 Tryd.prog 10 [(.int .i64 1)] H7 nx8 fun t20 H9 nx9=>
 G7 1 3 [.bool false,.slice none 0 0,.slice none 0 0] [(0,t20)] fun t22=>wNm nx7 3 (.slice 1 1) fun t21=>
 hsK H9 (nx7+3) (some (.cells t22 0)) fun H10=>U7 t19 t21 3 56 H10 nx9 fun t23 H11 nx11=>
 D1 t4 0 fun t24=>
 W3 t24 t23 1 H11 fun H12=>
 (((((True)/\((True)/\((G0 t18 none H9 fun t25=>t25=t19)/\((G0 t18 none H7 fun t26=>t26=t19)/\True))))/\True))/\(
 t10 [t17] H12 nx11))\/False) (
 t10 [(t8.getD 0 undef)] H4 nx4)) (fun t11 H5 nx5=>
 J0 .add (t8.getD 1 undef) (.int .i64 1) fun t27=>
 t7 [(t11.getD 0 undef),t27] H5 nx5)) (
 M50 none <| D2 (.map [] 0) .map H4 nx4 fun t28 H13 nx13=>
 D1 t2 1 fun t29=>
 G0 t29 none H13 fun t30=>
 X3 t30 0 H13 fun t31=>
 B3 (fun t32 t33 H14 nx14=>
 J0 .lss (t33.getD 1 undef) t31 fun t34=>
 G2 t34 (
 B4 (fun t35=>
 W2 t30 (t33.getD 1 undef) none 1 fun t37=>
 G0 t37 none H14 fun t38=>
 J0 .and t38 a1 fun t39=>
 B4 (fun t40=>
 J0 .eql t39 (.int .u32 0) fun t42=>
 J4 false t42 (
 wLk (.int .u32) (.bool false) t28 t39 false H14 fun t43=>
 t40 [t43] H14 nx14) (
 t40 [(.bool true)] H14 nx14)) (fun t41 H16 nx16=>
 G2 (t41.getD 0 undef) (
 t35 [(t33.getD 0 undef)] H16 nx16) (
 K54 (.int .u32) t28 t39 (.bool true) H16 nx16 fun t44 H17 nx17=>
 G7 1 1 [.int .i64 0] [(0,(t33.getD 1 undef))] fun t45=>D2 (.cells t45 0) (.slice 1 1) H17 nx17 fun t46 H18 nx18=>
 U7 (t33.getD 0 undef) t46 1 8 H18 nx18 fun t47 H19 nx19=>
 X3 (t8.getD 0 undef) 0 H19 fun t48=>
 B3 (fun t49 t50 H20 nx20=>
 J0 .lss (t50.getD 1 undef) t48 fun t51=>
 G2 t51 (
 W2 (t8.getD 0 undef) (t50.getD 1 undef) none 1 fun t52=>
 G0 t52 none H20 fun t53=>
 J0 .shr t39 t53 fun t54=>
 J0 .and t54 (.int .u32 1) fun t55=>
 M3 .i64 t55 fun t56=>
 Z1 Tryd.prog 10 [t56] H20 nx20 fun t57 H21 nx21=>
 G7 1 3 [.bool false,.slice none 0 0,.slice none 0 0] [(0,t57)] fun t58=>D2 (.cells t58 0) (.slice 1 1) H21 nx21 fun t59 H22 nx22=>
 U7 (t50.getD 0 undef) t59 3 56 H22 nx22 fun t60 H23 nx23=>
 J0 .add (t50.getD 1 undef) (.int .i64 1) fun t61=>
 t49 [t60,t61] H23 nx23) (
 D1 t4 1 fun t62=>
 G0 t62 none H20 fun t63=>
 G7 1 1 [.slice none 0 0] [(0,(t50.getD 0 undef))] fun t64=>D2 (.cells t64 0) (.slice 1 1) H20 nx20 fun t65 H24 nx24=>
 U7 t63 t65 1 24 H24 nx24 fun t66 H25 nx25=>
 D1 t4 1 fun t67=>
 W3 t67 t66 1 H25 fun H26=>
 E2 (nx25+7) fun nx27=>
 D1 t4 2 fun t68=>
 G0 t68 none H26 fun t69=>
 Z1 Tryd.prog 10 [(.int .i64 1)] H26 nx27 fun t70 H28 nx28=>
 G7 1 3 [.bool false,.slice none 0 0,.slice none 0 0] [(0,t70)] fun t72=>wNm nx25 3 (.slice 1 1) fun t71=>
 hsK H28 (nx25+3) (some (.cells t72 0)) fun H29=>U7 t69 t71 3 56 H29 nx28 fun t73 H30 nx30=>
 D1 t4 2 fun t74=>
 W3 t74 t73 1 H30 fun H31=>
 (((((True)/\((True)/\((G0 t68 none H28 fun t75=>t75=t69)/\((G0 t68 none H26 fun t76=>t76=t69)/\True))))/\True))/\(
 t35 [t47] H31 nx30))\/False)) [(.slice none 0 0),(.int .i64 0)] H19 nx19))) (fun t36 H15 nx15=>
 J0 .add (t33.getD 1 undef) (.int .i64 1) fun t77=>
 t32 [(t36.getD 0 undef),t77] H15 nx15)) (
 G0 t4 (some 3) H14 fun t78=>
 W3 t3 t78 3 H14 fun H32=>
 G0 t3 (some 3) H32 fun t79=>
 W1 (.tuple ⟨[t79,(t8.getD 0 undef),(t33.getD 0 undef)]⟩) fun t80=>k t80 H32 nx14)) [(.slice none 0 0),(.int .i64 0)] H13 nx13)) [(.slice none 0 0),(.int .i64 0)] H3 nx3
theorem spec62 (h:F62 a0 a1 H nx k):J2 Tryd.prog 62 [a0,a1] H nx k:=
 K2 mixed Z2 96 7 d62 [(.s 4,some (some 3)),(.s 5,none),(.s 6,none)] (by kernel_rfl) (by kernel_rfl) (by simp) (by kernel_rfl) h
noncomputable def d43:D:=Y5 Tryd.prog 43 [] [[7,35],[76],[93]] []
noncomputable def F43 (a0 a1:Value) (H:Y0) (nx:Nat) (k:EP):Prop:=
 R5 a0 fun t1=>D2 (.cells t1 0) .ptr H nx fun t2 H1 nx1=>
 D2 (.cells [.slice none 0 0,.slice none 0 0,.bool false,.slice none 0 0,.slice none 0 0] 0) .ptr H1 nx1 fun t3 H2 nx2=>
 G0 t2 (some 2) H2 fun t4=>
 Z1 Tryd.prog 42 [t4] H2 nx2 fun t5 H3 nx3=>
 J0 .neq t5 (.int .i64 0) fun t6=>
 G2 t6 (
 M4 [.slice none 0 0,.slice none 0 0,.bool false,.slice none 0 0,.slice none 0 0] [(0,1),(1,1),(2,3)] [] fun t7=>
 W3 t3 t7 5 H3 fun H4=>
 G0 t3 (some 5) H4 fun t8=>
 W1 (.tuple ⟨[t8,t5]⟩) fun t9=>k t9 H4 nx3) (
 G0 t2 (some 2) H3 fun t10=>
 Z1 Tryd.prog 61 [t10] H3 nx3 fun t11 H5 nx5=>
 J0 .andNot a1 t11 fun t12=>
 J0 .neq t12 (.int .u32 0) fun t13=>
 G2 t13 (
 M4 [.slice none 0 0,.slice none 0 0,.bool false,.slice none 0 0,.slice none 0 0] [(0,1),(1,1),(2,3)] [] fun t14=>
 W3 t3 t14 5 H5 fun H6=>
 G0 t3 (some 5) H6 fun t15=>
 W1 (.tuple ⟨[t15,(.int .i64 3)]⟩) fun t16=>k t16 H6 nx5) (
 D1 t2 1 fun t17=>
 G0 t17 none H5 fun t18=>
 X3 t18 0 H5 fun t19=>
 B3 (fun t20 t21 H7 nx7=>
 J0 .lss (t21.getD 1 undef) t19 fun t22=>
 G2 t22 (
 W2 t18 (t21.getD 1 undef) none 1 fun t23=>
 G0 t23 none H7 fun t24=>
 J0 .or (t21.getD 0 undef) t24 fun t25=>
 J0 .add (t21.getD 1 undef) (.int .i64 1) fun t26=>
 t20 [t25,t26] H7 nx7) (
 J0 .andNot a1 (t21.getD 0 undef) fun t27=>
 J0 .neq t27 (.int .u32 0) fun t28=>
 G2 t28 (
 M4 [.slice none 0 0,.slice none 0 0,.bool false,.slice none 0 0,.slice none 0 0] [(0,1),(1,1),(2,3)] [] fun t29=>
 W3 t3 t29 5 H7 fun H8=>
 G0 t3 (some 5) H8 fun t30=>
 W1 (.tuple ⟨[t30,(.int .i64 9)]⟩) fun t31=>k t31 H8 nx7) (
 G0 t2 (some 2) H7 fun t32=>
 Z1 Tryd.prog 62 [t32,a1] H7 nx7 fun t33 H9 nx9=>
 J5 t33 0 fun t34=>
 J5 t33 1 fun t35=>
 J5 t33 2 fun t36=>
 D2 (.cells [.slice none 0 0,.slice none 0 0,.slice none 0 0] 0) .ptr H9 nx9 fun t37 H10 nx10=>
 W3 t37 t34 3 H10 fun H11=>
 G0 t37 (some 3) H11 fun t38=>
 Z1 Tryd.prog 63 [t38] H11 nx10 fun t39 H12 nx12=>
 J5 t39 0 fun t40=>
 J5 t39 1 fun t41=>
 D2 (.cells [.int .i64 0,.slice none 0 0,.slice none 0 0,.slice none 0 0,.bool false,.slice none 0 0,.slice none 0 0] 0) .ptr H12 nx12 fun t42 H13 nx13=>
 W3 t42 t40 7 H13 fun H14=>
 J0 .neq t41 (.int .i64 0) fun t43=>
 G2 t43 (
 M4 [.slice none 0 0,.slice none 0 0,.bool false,.slice none 0 0,.slice none 0 0] [(0,1),(1,1),(2,3)] [] fun t44=>
 W3 t3 t44 5 H14 fun H15=>
 G0 t3 (some 5) H15 fun t45=>
 W1 (.tuple ⟨[t45,t41]⟩) fun t46=>k t46 H15 nx13) (
 E2 (nx13+12) fun nx16=>
 D1 t2 1 fun t47=>
 G0 t47 none H14 fun t48=>
 X3 t48 0 H14 fun t49=>
 Z1 Tryd.prog 64 [t49] H14 nx16 fun t50 H17 nx17=>
 D1 t2 0 fun t51=>
 G0 t51 none H17 fun t52=>
 Z1 Tryd.prog 64 [t52] H17 nx17 fun t53 H18 nx18=>
 D1 t42 4 fun t54=>
 G0 t54 (some 3) H18 fun t55=>
 M4 [.slice none 0 0,.slice none 0 0,.bool false,.slice none 0 0,.slice none 0 0] [(0,1),(1,1),(2,3)] [(0,t50),(1,t53),(2,t55)] fun t56=>
 wNm nx13 10 .ptr fun t57=>
 hsK H18 (nx13+10) (some (.cells [.slice none 0 0,.slice none 0 0,.bool false,.slice none 0 0,.slice none 0 0] 0)) fun H19=>W3 t57 t56 5 H19 fun H20=>
 (((((True)/\((G0 t54 (some 3) H18 fun t63=>t63=t55)/\((G0 t54 (some 3) H17 fun t64=>t64=t55)/\((G0 t54 (some 3) H14 fun t65=>t65=t55)/\True))))/\(((True)/\((True)/\((G0 t51 none H17 fun t61=>t61=t52)/\((G0 t51 none H14 fun t62=>t62=t52)/\True))))/\(((True)/\((True)/\((True)/\((X3 t48 0 H14 fun t60=>t60=t49)/\True))))/\(((True)/\((True)/\((True)/\((G0 t47 none H14 fun t59=>t59=t48)/\True))))/\True)))))/\(
 X3 t35 0 H20 fun t66=>
 B3 (fun t67 t68 H21 nx21=>
 J0 .lss (t68.getD 0 undef) t66 fun t69=>
 G2 t69 (
 W2 t35 (t68.getD 0 undef) none 1 fun t70=>
 G0 t70 none H21 fun t71=>
 E2 (nx21+10) fun nx22=>
 D1 t57 1 fun t72=>
 G0 t72 none H21 fun t73=>
 D1 t42 1 fun t74=>
 G0 t74 none H21 fun t75=>
 W2 t75 (t68.getD 0 undef) none 3 fun t76=>
 G0 t76 (some 3) H21 fun t77=>
 W2 t73 t71 none 3 fun t78=>
 W3 t78 t77 3 H21 fun H23=>
 (((((True)/\((G0 t76 (some 3) H21 fun t81=>t81=t77)/\True))/\(((True)/\((G0 t74 none H21 fun t80=>t80=t75)/\True))/\(((True)/\((G0 t72 none H21 fun t79=>t79=t73)/\True))/\True))))/\(
 J0 .add (t68.getD 0 undef) (.int .i64 1) fun t82=>
 t67 [t82] H23 nx22))\/False) (
 X3 t36 0 H21 fun t83=>
 B3 (fun t84 t85 H24 nx24=>
 J0 .lss (t85.getD 0 undef) t83 fun t86=>
 G2 t86 (
 W2 t36 (t85.getD 0 undef) none 1 fun t87=>
 G0 t87 none H24 fun t88=>
 E2 (nx24+10) fun nx25=>
 D1 t57 0 fun t89=>
 G0 t89 none H24 fun t90=>
 D1 t42 2 fun t91=>
 G0 t91 none H24 fun t92=>
 W2 t92 (t85.getD 0 undef) none 3 fun t93=>
 G0 t93 (some 3) H24 fun t94=>
 W2 t90 t88 none 3 fun t95=>
 W3 t95 t94 3 H24 fun H26=>
 (((((True)/\((G0 t93 (some 3) H24 fun t98=>t98=t94)/\True))/\(((True)/\((G0 t91 none H24 fun t97=>t97=t92)/\True))/\(((True)/\((G0 t89 none H24 fun t96=>t96=t90)/\True))/\True))))/\(
 J0 .add (t85.getD 0 undef) (.int .i64 1) fun t99=>
 t84 [t99] H26 nx25))\/False) (
 G0 t57 (some 5) H24 fun t100=>
 W3 t3 t100 5 H24 fun H27=>
 G0 t3 (some 5) H27 fun t101=>
 W1 (.tuple ⟨[t101,(.int .i64 0)]⟩) fun t102=>k t102 H27 nx24)) [(.int .i64 0)] H21 nx21)) [(.int .i64 0)] H20 nx18))\/False)))) [(.int .u32 0),(.int .i64 0)] H5 nx5))
theorem spec43 (h:F43 a0 a1 H nx k):J2 Tryd.prog 43 [a0,a1] H nx k:=
 K2 mixed Z2 109 7 d43 [(.s 4,some (some 5)),(.s 5,none)] (by kernel_rfl) (by kernel_rfl) (by simp) (by kernel_rfl) h
end Go.Proofs.YtpiobdofbhkmjaaDoor
