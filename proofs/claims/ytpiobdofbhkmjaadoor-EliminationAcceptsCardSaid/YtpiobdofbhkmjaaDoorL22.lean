/-
  MADE BY PROGRAM (wip/gen/gen.py): functions 39 74 60 38 11 12 13 3 as marked code,and their claims written out.
  Plain: natural numbers as lists of digits to the base 2^32,least significant first.
-/
import Derived.Test.YtpiobdofbhkmjaaDoorL21
import Derived.KernelRfl
import Derived.Test.YtpiobdofbhkmjaaDoorL15
set_option linter.unusedSimpArgs false
set_option linter.unusedVariables false
set_option linter.unusedSectionVars false
namespace Go.Proofs.YtpiobdofbhkmjaaDoor
open Go.Clo
set_option maxRecDepth 100000
variable {H:Y0} {a0 a1 a2:Value} {k:EP} {nx:Nat}
noncomputable def d39:D:=Y5 Tryd.prog 39 [(6,[35])] [[7]] [.one (.tst (.one (.tst (.one .nil) (.one .nil))) (.one (.one (.one .nil))))]
noncomputable def F39 (a0 a1 a2:Value) (H:Y0) (nx:Nat) (k:EP):Prop:=
 R5 a0 fun t1=>D2 (.cells t1 0) .ptr H nx fun t2 H1 nx1=>
 B3 (fun t3 t4 H2 nx2=>
 D1 t2 1 fun t5=>
 G0 t5 none H2 fun t6=>
 X3 t6 0 H2 fun t7=>
 J0 .lss (t4.getD 0 undef) t7 fun t8=>
 G2 t8 (
 B4 (fun t9=>
 J0 .neq a1 a2 fun t11=>
 J4 true t11 (
 D1 t2 1 fun t12=>
 G0 t12 none H2 fun t13=>
 W2 t13 (t4.getD 0 undef) none 1 fun t14=>
 G0 t14 none H2 fun t15=>
 Z1 Tryd.prog 45 [t15,a1] H2 nx2 fun t16 H4 nx4=>
 J4 true t16 (
 D1 t2 1 fun t17=>
 G0 t17 none H4 fun t18=>
 W2 t18 (t4.getD 0 undef) none 1 fun t19=>
 G0 t19 none H4 fun t20=>
 Z1 Tryd.prog 45 [t20,a2] H4 nx4 fun t21 H5 nx5=>
 t9 [t21] H5 nx5) (
 t9 [(.bool false)] H4 nx4)) (
 t9 [(.bool false)] H2 nx2)) (fun t10 H3 nx3=>
 G2 (t10.getD 0 undef) (
 W1 (.bool true) fun t22=>k t22 H3 nx3) (
 J0 .add (t4.getD 0 undef) (.int .i64 1) fun t23=>
 t3 [t23] H3 nx3))) (
 W1 (.bool false) fun t24=>k t24 H2 nx2)) [(.int .i64 0)] H1 nx1
theorem spec39 (h:F39 a0 a1 a2 H nx k):J2 Tryd.prog 39 [a0,a1,a2] H nx k:=
 K2 mixed Z2 36 6 d39 [(.s 6,none)] (by kernel_rfl) (by kernel_rfl) (by simp) (by kernel_rfl) h
noncomputable def d74:D:=Y5 Tryd.prog 74 [(6,[18])] [[5]] [.one (.tst (.one .nil) (.one .nil))]
noncomputable def F74 (a0 a1:Value) (H:Y0) (nx:Nat) (k:EP):Prop:=
 B3 (fun t1 t2 H1 nx1=>
 J0 .lss (t2.getD 0 undef) (.int .i64 32) fun t3=>
 G2 t3 (
 B4 (fun t4=>
 Z1 Tryd.prog 45 [a1,(t2.getD 0 undef)] H1 nx1 fun t6 H3 nx3=>
 J4 true t6 (
 Z1 Tryd.prog 45 [a0,(t2.getD 0 undef)] H3 nx3 fun t7 H4 nx4=>
 wUn .not t7 fun t8=>
 t4 [t8] H4 nx4) (
 t4 [(.bool false)] H3 nx3)) (fun t5 H2 nx2=>
 G2 (t5.getD 0 undef) (
 W1 (.bool false) fun t9=>k t9 H2 nx2) (
 J0 .add (t2.getD 0 undef) (.int .i64 1) fun t10=>
 t1 [t10] H2 nx2))) (
 W1 (.bool true) fun t11=>k t11 H1 nx1)) [(.int .i64 0)] H nx
theorem spec74 (h:F74 a0 a1 H nx k):J2 Tryd.prog 74 [a0,a1] H nx k:=
 K2 mixed Z2 19 5 d74 [(.s 4,none)] (by kernel_rfl) (by kernel_rfl) (by simp) (by kernel_rfl) h
noncomputable def d60:D:=Y5 Tryd.prog 60 [(10,[53]),(22,[11,12]),(23,[80])] [[8],[9],[10],[11,12,13]] [.one (.tst (.one (.tst (.one (.tst (.one .nil) (.one .nil))) (.one (.one (.one .nil))))) (.one (.one (.one (.one (.one .nil)))))),.one (.tst (.one .nil) (.one .nil))]
noncomputable def F60 (a0 a1 a2:Value) (H:Y0) (nx:Nat) (k:EP):Prop:=
 D2 (.cells [.int .i64 0,.int .i64 0,.int .i64 0] 0) .ptr H nx fun t1 H1 nx1=>
 B3 (fun t2 t3 H2 nx2=>
 X3 a0 0 H2 fun t4=>
 J0 .lss (t3.getD 0 undef) t4 fun t5=>
 G2 t5 (
 B3 (fun t6 t7 H3 nx3=>
 X3 a0 0 H3 fun t8=>
 J0 .lss (t7.getD 0 undef) t8 fun t9=>
 G2 t9 (
 B4 (fun t10=>
 E2 (nx3+28) fun nx5=>
 J0 .neq (t3.getD 0 undef) (t7.getD 0 undef) fun t12=>
 J4 true t12 (
 W2 a1 (t3.getD 0 undef) none 1 fun t13=>
 G0 t13 none H3 fun t14=>
 wUn .not t14 fun t15=>
 J4 true t15 (
 W2 a1 (t7.getD 0 undef) none 1 fun t16=>
 G0 t16 none H3 fun t17=>
 wUn .not t17 fun t18=>
 J4 true t18 (
 W2 a0 (t7.getD 0 undef) none 1 fun t19=>
 G0 t19 none H3 fun t20=>
 W2 a0 (t3.getD 0 undef) none 1 fun t21=>
 G0 t21 none H3 fun t22=>
 Z1 Tryd.prog 74 [t20,t22] H3 nx5 fun t23 H6 nx6=>
 (((((True)/\((G0 t21 none H3 fun t27=>t27=t22)/\True))/\(((True)/\((G0 t19 none H3 fun t26=>t26=t20)/\True))/\(((True)/\((G0 t16 none H3 fun t25=>t25=t17)/\True))/\(((True)/\((G0 t13 none H3 fun t24=>t24=t14)/\True))/\True)))))/\(
 t10 [t23] H6 nx6))\/False) (
 (((((G0 t16 none H3 fun t29=>t29=t17)/\True)/\(((G0 t13 none H3 fun t28=>t28=t14)/\True)/\True)))/\(
 t10 [(.bool false)] H3 nx5))\/False)) (
 (((((G0 t13 none H3 fun t30=>t30=t14)/\True)/\True))/\(
 t10 [(.bool false)] H3 nx5))\/False)) (
 ((True)/\(
 t10 [(.bool false)] H3 nx5))\/False)) (fun t11 H4 nx4=>
 G2 (t11.getD 0 undef) (
 M4 [.int .i64 0,.int .i64 0,.int .i64 0] [(0,1),(1,1),(2,1)] [(0,(t3.getD 0 undef)),(1,(t7.getD 0 undef)),(2,(.int .i64 (-1)))] fun t31=>
 W3 t1 t31 3 H4 fun H7=>
 G0 t1 (some 3) H7 fun t32=>
 W1 (.tuple ⟨[t32,(.bool true)]⟩) fun t33=>k t33 H7 nx4) (
 J0 .add (t7.getD 0 undef) (.int .i64 1) fun t34=>
 t6 [t34] H4 nx4))) (
 J0 .add (t3.getD 0 undef) (.int .i64 1) fun t35=>
 t2 [t35] H3 nx3)) [(.int .i64 0)] H2 nx2) (
 B3 (fun t36 t37 H8 nx8=>
 J0 .lss (t37.getD 0 undef) a2 fun t38=>
 G2 t38 (
 B3 (fun t39 t40 H9 nx9=>
 X3 a0 0 H9 fun t41=>
 J0 .lss (t40.getD 2 undef) t41 fun t42=>
 G2 t42 (
 B4 (fun t43=>
 B4 (fun t45=>
 W2 a1 (t40.getD 2 undef) none 1 fun t47=>
 G0 t47 none H9 fun t48=>
 wUn .not t48 fun t49=>
 J4 true t49 (
 W2 a0 (t40.getD 2 undef) none 1 fun t50=>
 G0 t50 none H9 fun t51=>
 Z1 Tryd.prog 45 [t51,(t37.getD 0 undef)] H9 nx9 fun t52 H12 nx12=>
 t45 [t52] H12 nx12) (
 t45 [(.bool false)] H9 nx9)) (fun t46 H11 nx11=>
 G2 (t46.getD 0 undef) (
 J0 .add (t40.getD 0 undef) (.int .i64 1) fun t53=>
 t43 [t53,(t40.getD 2 undef)] H11 nx11) (
 t43 [(t40.getD 0 undef),(t40.getD 1 undef)] H11 nx11))) (fun t44 H10 nx10=>
 J0 .add (t40.getD 2 undef) (.int .i64 1) fun t54=>
 t39 [(t44.getD 0 undef),(t44.getD 1 undef),t54] H10 nx10)) (
 J0 .eql (t40.getD 0 undef) (.int .i64 1) fun t55=>
 G2 t55 (
 M4 [.int .i64 0,.int .i64 0,.int .i64 0] [(0,1),(1,1),(2,1)] [(0,(t40.getD 1 undef)),(1,(.int .i64 (-1))),(2,(t37.getD 0 undef))] fun t56=>
 W3 t1 t56 3 H9 fun H13=>
 G0 t1 (some 3) H13 fun t57=>
 W1 (.tuple ⟨[t57,(.bool true)]⟩) fun t58=>k t58 H13 nx9) (
 J0 .add (t37.getD 0 undef) (.int .i64 1) fun t59=>
 t36 [t59] H9 nx9))) [(.int .i64 0),(.int .i64 0),(.int .i64 0)] H8 nx8) (
 M4 [.int .i64 0,.int .i64 0,.int .i64 0] [(0,1),(1,1),(2,1)] [] fun t60=>
 W3 t1 t60 3 H8 fun H14=>
 G0 t1 (some 3) H14 fun t61=>
 W1 (.tuple ⟨[t61,(.bool false)]⟩) fun t62=>k t62 H14 nx8)) [(.int .i64 0)] H2 nx2)) [(.int .i64 0)] H1 nx1
theorem spec60 (h:F60 a0 a1 a2 H nx k):J2 Tryd.prog 60 [a0,a1,a2] H nx k:=
 K2 mixed Z2 90 7 d60 [(.s 6,some (some 3)),(.s 7,none)] (by kernel_rfl) (by kernel_rfl) (by simp) (by kernel_rfl) h
noncomputable def d38:D:=Y5 Tryd.prog 38 [] [[6]] []
noncomputable def F38 (a0:Value) (H:Y0) (nx:Nat) (k:EP):Prop:=
 R5 a0 fun t1=>D2 (.cells t1 0) .ptr H nx fun t2 H1 nx1=>
 D1 t2 1 fun t3=>
 G0 t3 none H1 fun t4=>
 U7 (.slice none 0 0) t4 1 4 H1 nx1 fun t5 H2 nx2=>
 X3 t5 0 H2 fun t6=>
 K21 t6 t6 [.bool false] fun t7 t9 t10=>D2 (.cells t7 0) (.slice t9 t10) H2 nx2 fun t8 H3 nx3=>
 B3 (fun t11 t12 H4 nx4=>
 D1 t2 0 fun t13=>
 G0 t13 none H4 fun t14=>
 Z1 Tryd.prog 60 [t5,t8,t14] H4 nx4 fun t15 H5 nx5=>
 J5 t15 0 fun t16=>
 J5 t15 1 fun t17=>
 D2 (.cells [.int .i64 0,.int .i64 0,.int .i64 0] 0) .ptr H5 nx5 fun t18 H6 nx6=>
 W3 t18 t16 3 H6 fun H7=>
 wUn .not t17 fun t19=>
 G2 t19 (
 W1 (.tuple ⟨[(t12.getD 0 undef),t5]⟩) fun t20=>k t20 H7 nx6) (
 G0 t18 (some 3) H7 fun t21=>
 G7 1 3 [.int .i64 0,.int .i64 0,.int .i64 0] [(0,t21)] fun t22=>D2 (.cells t22 0) (.slice 1 1) H7 nx6 fun t23 H8 nx8=>
 U7 (t12.getD 0 undef) t23 3 24 H8 nx8 fun t24 H9 nx9=>
 D1 t18 2 fun t25=>
 G0 t25 none H9 fun t26=>
 J0 .geq t26 (.int .i64 0) fun t27=>
 G2 t27 (
 E2 (nx9+14) fun nx10=>
 D1 t18 0 fun t28=>
 G0 t28 none H9 fun t29=>
 D1 t18 0 fun t30=>
 G0 t30 none H9 fun t31=>
 W2 t5 t31 none 1 fun t32=>
 G0 t32 none H9 fun t33=>
 D1 t18 2 fun t34=>
 G0 t34 none H9 fun t35=>
 J0 .shl (.int .u32 1) t35 fun t36=>
 J0 .sub t33 t36 fun t37=>
 W2 t5 t29 none 1 fun t38=>
 W3 t38 t37 1 H9 fun H11=>
 (((((True)/\((G0 t34 none H9 fun t42=>t42=t35)/\True))/\(((True)/\((G0 t32 none H9 fun t41=>t41=t33)/\True))/\(((True)/\((G0 t30 none H9 fun t40=>t40=t31)/\True))/\(((True)/\((G0 t28 none H9 fun t39=>t39=t29)/\True))/\True)))))/\(
 t11 [t24] H11 nx10))\/False) (
 D1 t18 0 fun t43=>
 G0 t43 none H9 fun t44=>
 W2 t5 t44 none 1 fun t45=>
 W3 t45 (.int .u32 0) 1 H9 fun H12=>
 D1 t18 0 fun t46=>
 G0 t46 none H12 fun t47=>
 W2 t8 t47 none 1 fun t48=>
 W3 t48 (.bool true) 1 H12 fun H13=>
 t11 [t24] H13 nx9))) [(.slice none 0 0)] H3 nx3
theorem spec38 (h:F38 a0 H nx k):J2 Tryd.prog 38 [a0] H nx k:=
 K2 mixed Z2 56 6 d38 [(.s 2,none),(.s 3,none)] (by kernel_rfl) (by kernel_rfl) (by simp) (by kernel_rfl) h
noncomputable def d11:D:=Y5 Tryd.prog 11 [] [[5]] []
noncomputable def F11 (a0:Value) (H:Y0) (nx:Nat) (k:EP):Prop:=
 R5 a0 fun t1=>D2 (.cells t1 0) .ptr H nx fun t2 H1 nx1=>
 G0 t2 (some 2) H1 fun t3=>
 Z1 Tryd.prog 38 [t3] H1 nx1 fun t4 H2 nx2=>
 J5 t4 0 fun t5=>
 J5 t4 1 fun t6=>
 B3 (fun t7 t8 H3 nx3=>
 X3 t6 0 H3 fun t9=>
 J0 .lss (t8.getD 0 undef) t9 fun t10=>
 G2 t10 (
 W2 t6 (t8.getD 0 undef) none 1 fun t11=>
 G0 t11 none H3 fun t12=>
 J0 .neq t12 (.int .u32 0) fun t13=>
 G2 t13 (
 W1 (.bool false) fun t14=>k t14 H3 nx3) (
 J0 .add (t8.getD 0 undef) (.int .i64 1) fun t15=>
 t7 [t15] H3 nx3)) (
 W1 (.bool true) fun t16=>k t16 H3 nx3)) [(.int .i64 0)] H2 nx2
theorem spec11 (h:F11 a0 H nx k):J2 Tryd.prog 11 [a0] H nx k:=
 K2 mixed Z2 22 5 d11 [(.s 2,none)] (by kernel_rfl) (by kernel_rfl) (by simp) (by kernel_rfl) h
noncomputable def d12:D:=Y5 Tryd.prog 12 [(5,[]),(11,[8]),(12,[43]),(14,[65]),(16,[73])] [[7],[8,9]] [.one (.tst (.one .nil) (.one .nil)),.one (.tst (.tst (.one (.one (.tst (.tst (.one (.one .nil)) (.one (.one .nil))) (.one (.one (.one .nil)))))) (.one (.one (.one (.tst (.one (.one .nil)) (.one (.one .nil))))))) (.one (.one (.one (.one (.one (.one (.one .nil)))))))),.one (.tst (.one .nil) (.one .nil))]
noncomputable def F12 (a0 a1 a2:Value) (H:Y0) (nx:Nat) (k:EP):Prop:=
 R5 a0 fun t1=>D2 (.cells t1 0) .ptr H nx fun t2 H1 nx1=>
 B3 (fun t3 t4 H2 nx2=>
 D1 t2 0 fun t5=>
 G0 t5 none H2 fun t6=>
 J0 .lss (t4.getD 0 undef) t6 fun t7=>
 G2 t7 (
 B4 (fun t8=>
 B3 (fun t10 t11 H4 nx4=>
 X3 a2 0 H4 fun t12=>
 J0 .lss (t11.getD 1 undef) t12 fun t13=>
 G2 t13 (
 B4 (fun t14=>
 B4 (fun t16=>
 E2 (nx4+21) fun nx7=>
 W2 a2 (t11.getD 1 undef) none 1 fun t18=>
 G0 t18 none H4 fun t19=>
 J0 .eql t19 (t4.getD 0 undef) fun t20=>
 J4 false t20 (
 G0 t2 (some 2) H4 fun t21=>
 W2 a2 (t11.getD 1 undef) none 1 fun t22=>
 G0 t22 none H4 fun t23=>
 Z1 Tryd.prog 39 [t21,t23,(t4.getD 0 undef)] H4 nx7 fun t24 H8 nx8=>
 X3 a2 0 H8 fun t25=>
 J0 .sub t25 (.int .i64 1) fun t26=>
 J0 .eql (t11.getD 1 undef) t26 fun t27=>
 wVf (.eqb true) [t24,t27] fun t28=>
 (((((X3 a2 0 H8 fun t32=>t32=t25)/\((X3 a2 0 H4 fun t33=>t33=t25)/\True))/\(((True)/\((G0 t22 none H4 fun t31=>t31=t23)/\True))/\(((True)/\((G0 t2 (some 2) H4 fun t30=>t30=t21)/\True))/\(((True)/\((G0 t18 none H4 fun t29=>t29=t19)/\True))/\True)))))/\(
 t16 [t28] H8 nx8))\/False) (
 (((((G0 t18 none H4 fun t34=>t34=t19)/\True)/\True))/\(
 t16 [(.bool true)] H4 nx7))\/False)) (fun t17 H6 nx6=>
 G2 (t17.getD 0 undef) (
 t14 [(.bool false)] H6 nx6) (
 t14 [(t11.getD 0 undef)] H6 nx6))) (fun t15 H5 nx5=>
 J0 .add (t11.getD 1 undef) (.int .i64 1) fun t35=>
 t10 [(t15.getD 0 undef),t35] H5 nx5)) (
 B4 (fun t36=>
 wUn .not (t11.getD 0 undef) fun t38=>
 J4 false t38 (
 X3 a2 0 H4 fun t39=>
 J0 .eql t39 (.int .i64 0) fun t40=>
 J4 true t40 (
 J0 .geq (t4.getD 0 undef) a1 fun t41=>
 J4 false t41 (
 X3 a2 0 H4 fun t42=>
 J0 .eql t42 (.int .i64 1) fun t43=>
 J4 true t43 (
 J0 .lss (t4.getD 0 undef) a1 fun t44=>
 t36 [t44] H4 nx4) (
 t36 [(.bool false)] H4 nx4)) (
 t36 [(.bool true)] H4 nx4)) (
 X3 a2 0 H4 fun t45=>
 J0 .eql t45 (.int .i64 1) fun t46=>
 J4 true t46 (
 J0 .lss (t4.getD 0 undef) a1 fun t47=>
 t36 [t47] H4 nx4) (
 t36 [(.bool false)] H4 nx4))) (
 t36 [(.bool true)] H4 nx4)) (fun t37 H9 nx9=>
 G2 (t37.getD 0 undef) (
 t8 [] H9 nx9) (
 B4 (fun t48=>
 X3 a2 0 H9 fun t50=>
 J0 .gtr t50 (.int .i64 1) fun t51=>
 J4 true t51 (
 J0 .lss (t4.getD 0 undef) a1 fun t52=>
 t48 [t52] H9 nx9) (
 t48 [(.bool false)] H9 nx9)) (fun t49 H10 nx10=>
 G2 (t49.getD 0 undef) (
 W1 (.bool true) fun t53=>k t53 H10 nx10) (
 U7 (.slice none 0 0) a2 1 8 H10 nx10 fun t54 H11 nx11=>
 E2 (nx11+7) fun nx12=>
 G0 t2 (some 2) H11 fun t55=>
 G7 1 1 [.int .i64 0] [(0,(t4.getD 0 undef))] fun t57=>wNm nx11 4 (.slice 1 1) fun t56=>
 hsK H11 (nx11+4) (some (.cells t57 0)) fun H13=>U7 t54 t56 1 8 H13 nx12 fun t58 H14 nx14=>
 Z1 Tryd.prog 12 [t55,a1,t58] H14 nx14 fun t59 H15 nx15=>
 (((((True)/\((G0 t2 (some 2) H14 fun t60=>t60=t55)/\((G0 t2 (some 2) H11 fun t61=>t61=t55)/\True)))/\True))/\(
 G2 t59 (
 W1 (.bool true) fun t62=>k t62 H15 nx15) (
 t8 [] H15 nx15)))\/False)))))) [(.bool true),(.int .i64 0)] H2 nx2) (fun t9 H3 nx3=>
 J0 .add (t4.getD 0 undef) (.int .i64 1) fun t63=>
 t3 [t63] H3 nx3)) (
 W1 (.bool false) fun t64=>k t64 H2 nx2)) [(.int .i64 0)] H1 nx1
theorem spec12 (h:F12 a0 a1 a2 H nx k):J2 Tryd.prog 12 [a0,a1,a2] H nx k:=
 K2 mixed Z2 84 7 d12 [(.s 6,none)] (by kernel_rfl) (by kernel_rfl) (by simp) (by kernel_rfl) h
noncomputable def d13:D:=Y5 Tryd.prog 13 [(14,[39])] [[5],[6],[7]] [.one (.tst (.one (.tst (.one .nil) (.one .nil))) (.one (.one (.one .nil))))]
noncomputable def F13 (a0 a1:Value) (H:Y0) (nx:Nat) (k:EP):Prop:=
 R5 a0 fun t1=>D2 (.cells t1 0) .ptr H nx fun t2 H1 nx1=>
 B3 (fun t3 t4 H2 nx2=>
 J0 .lss (t4.getD 0 undef) a1 fun t5=>
 G2 t5 (
 B3 (fun t6 t7 H3 nx3=>
 J0 .lss (t7.getD 0 undef) (t4.getD 0 undef) fun t8=>
 G2 t8 (
 B3 (fun t9 t10 H4 nx4=>
 J0 .lss (t10.getD 0 undef) (t7.getD 0 undef) fun t11=>
 G2 t11 (
 B4 (fun t12=>
 G0 t2 (some 2) H4 fun t14=>
 Z1 Tryd.prog 39 [t14,(t10.getD 0 undef),(t4.getD 0 undef)] H4 nx4 fun t15 H6 nx6=>
 J4 true t15 (
 G0 t2 (some 2) H6 fun t16=>
 Z1 Tryd.prog 39 [t16,(t7.getD 0 undef),(t4.getD 0 undef)] H6 nx6 fun t17 H7 nx7=>
 J4 true t17 (
 G0 t2 (some 2) H7 fun t18=>
 Z1 Tryd.prog 39 [t18,(t10.getD 0 undef),(t7.getD 0 undef)] H7 nx7 fun t19 H8 nx8=>
 wUn .not t19 fun t20=>
 t12 [t20] H8 nx8) (
 t12 [(.bool false)] H7 nx7)) (
 t12 [(.bool false)] H6 nx6)) (fun t13 H5 nx5=>
 G2 (t13.getD 0 undef) (
 W1 (.bool true) fun t21=>k t21 H5 nx5) (
 J0 .add (t10.getD 0 undef) (.int .i64 1) fun t22=>
 t9 [t22] H5 nx5))) (
 J0 .add (t7.getD 0 undef) (.int .i64 1) fun t23=>
 t6 [t23] H4 nx4)) [(.int .i64 0)] H3 nx3) (
 J0 .add (t4.getD 0 undef) (.int .i64 1) fun t24=>
 t3 [t24] H3 nx3)) [(.int .i64 0)] H2 nx2) (
 W1 (.bool false) fun t25=>k t25 H2 nx2)) [(.int .i64 0)] H1 nx1
theorem spec13 (h:F13 a0 a1 H nx k):J2 Tryd.prog 13 [a0,a1] H nx k:=
 K2 mixed Z2 40 6 d13 [(.s 4,none)] (by kernel_rfl) (by kernel_rfl) (by simp) (by kernel_rfl) h
noncomputable def d3:D:=Y5 Tryd.prog 3 [(2,[17])] [] [.one (.tst (.one .nil) (.one .nil)),.one (.tst (.one (.tst (.tst (.one (.tst (.one (.one .nil)) (.one (.one .nil)))) (.one (.one (.one (.one .nil))))) (.one (.one (.one (.one (.one .nil))))))) (.one (.one (.one (.one (.one (.one (.one .nil))))))))]
noncomputable def F3 (a0 a1:Value) (H:Y0) (nx:Nat) (k:EP):Prop:=
 R5 a0 fun t1=>D2 (.cells t1 0) .ptr H nx fun t2 H1 nx1=>
 B4 (fun t3=>
 G0 t2 (some 2) H1 fun t5=>
 Z1 Tryd.prog 5 [t5] H1 nx1 fun t6 H3 nx3=>
 wUn .not t6 fun t7=>
 J4 false t7 (
 D1 t2 0 fun t8=>
 G0 t8 none H3 fun t9=>
 J0 .eql t9 (.int .i64 0) fun t10=>
 t3 [t10] H3 nx3) (
 t3 [(.bool true)] H3 nx3)) (fun t4 H2 nx2=>
 G2 (t4.getD 0 undef) (
 Z1 Tryd.prog 6 [] H2 nx2 fun t11 H4 nx4=>
 W1 t11 fun t12=>k t12 H4 nx4) (
 M3 .i64 a1 fun t13=>
 D1 t2 0 fun t14=>
 G0 t14 none H2 fun t15=>
 J0 .add t15 (.int .i64 1) fun t16=>
 J0 .rem t13 t16 fun t17=>
 G0 t2 (some 2) H2 fun t18=>
 Z1 Tryd.prog 7 [t18,t17] H2 nx2 fun t19 H5 nx5=>
 J5 t19 0 fun t20=>
 J5 t19 1 fun t21=>
 J5 t19 2 fun t22=>
 D2 (.cells [.bool false,.slice none 0 0,.slice none 0 0] 0) .ptr H5 nx5 fun t23 H6 nx6=>
 W3 t23 t21 3 H6 fun H7=>
 G0 t2 (some 2) H7 fun t24=>
 Z1 Tryd.prog 8 [t24] H7 nx6 fun t25 H8 nx8=>
 D2 (.cells [.int .i64 0,.slice none 0 0] 0) .ptr H8 nx8 fun t26 H9 nx9=>
 W3 t26 t25 2 H9 fun H10=>
 J0 .eql t22 (.int .i64 9) fun t27=>
 G2 t27 (
 Z1 Tryd.prog 6 [] H10 nx9 fun t28 H11 nx11=>
 W1 t28 fun t29=>k t29 H11 nx11) (
 E2 (nx9+27) fun nx12=>
 Z1 Tryd.prog 6 [] H10 nx12 fun t30 H13 nx13=>
 J4 true t30 (
 J0 .eql t22 (.int .i64 0) fun t31=>
 J4 true t31 (
 G0 t23 (some 3) H13 fun t32=>
 Z1 Tryd.prog 10 [(.int .i64 1)] H13 nx13 fun t33 H14 nx14=>
 Z1 Tryd.prog 9 [t32,t33] H14 nx14 fun t34 H15 nx15=>
 J0 .eql t34 (.int .i64 0) fun t35=>
 G0 t26 (some 2) H15 fun t36=>
 Z1 Tryd.prog 11 [t36] H15 nx15 fun t37 H16 nx16=>
 J4 true t37 (
 G0 t26 (some 2) H16 fun t38=>
 Z1 Tryd.prog 12 [t38,t17,(.slice none 0 0)] H16 nx16 fun t39 H17 nx17=>
 wUn .not t39 fun t40=>
 J4 true t40 (
 G0 t26 (some 2) H17 fun t41=>
 Z1 Tryd.prog 13 [t41,t17] H17 nx17 fun t42 H18 nx18=>
 wUn .not t42 fun t43=>
 wVf (.eqb false) [t35,t43] fun t44=>
 (((((True)/\((G0 t26 (some 2) H17 fun t51=>t51=t41)/\True))/\(((True)/\((True)/\((G0 t26 (some 2) H16 fun t50=>t50=t38)/\True)))/\(((True)/\((True)/\((True)/\((G0 t26 (some 2) H15 fun t47=>t47=t36)/\((G0 t26 (some 2) H14 fun t48=>t48=t36)/\((G0 t26 (some 2) H13 fun t49=>t49=t36)/\True))))))/\(((True)/\((True)/\((True)/\((True)/\((G0 t23 (some 3) H14 fun t45=>t45=t32)/\((G0 t23 (some 3) H13 fun t46=>t46=t32)/\True))))))/\True)))))/\(
 W1 t44 fun t52=>k t52 H18 nx18))\/False) (
 wVf (.eqb false) [t35,(.bool false)] fun t53=>
 (((((True)/\((G0 t26 (some 2) H16 fun t59=>t59=t38)/\True))/\(((True)/\((True)/\((G0 t26 (some 2) H15 fun t56=>t56=t36)/\((G0 t26 (some 2) H14 fun t57=>t57=t36)/\((G0 t26 (some 2) H13 fun t58=>t58=t36)/\True)))))/\(((True)/\((True)/\((True)/\((G0 t23 (some 3) H14 fun t54=>t54=t32)/\((G0 t23 (some 3) H13 fun t55=>t55=t32)/\True)))))/\True))))/\(
 W1 t53 fun t60=>k t60 H17 nx17))\/False)) (
 wVf (.eqb false) [t35,(.bool false)] fun t61=>
 (((((True)/\((G0 t26 (some 2) H15 fun t64=>t64=t36)/\((G0 t26 (some 2) H14 fun t65=>t65=t36)/\((G0 t26 (some 2) H13 fun t66=>t66=t36)/\True))))/\(((True)/\((True)/\((G0 t23 (some 3) H14 fun t62=>t62=t32)/\((G0 t23 (some 3) H13 fun t63=>t63=t32)/\True))))/\True)))/\(
 W1 t61 fun t67=>k t67 H16 nx16))\/False)) (
 ((True)/\(
 W1 (.bool false) fun t68=>k t68 H13 nx13))\/False)) (
 ((True)/\(
 W1 (.bool false) fun t69=>k t69 H13 nx13))\/False))))
theorem spec3 (h:F3 a0 a1 H nx k):J2 Tryd.prog 3 [a0,a1] H nx k:=
 K2 mixed Z2 63 6 d3 [(.s 4,none)] (by kernel_rfl) (by kernel_rfl) (by simp) (by kernel_rfl) h
end Go.Proofs.YtpiobdofbhkmjaaDoor

namespace Go.Clo
variable {d n:Nat} {ds:List Nat}
def val:List Nat->Nat
 | []=>0
 | d :: ds=>d+4294967296*val ds
def R0 (n:Nat):List Nat:=if h:n=0 then [] else n%4294967296 :: R0 (n/4294967296)
termination_by n
decreasing_by exact Nat.div_lt_self (by omega) (by omega)
theorem Z6:R0 0=[]:=by rw[R0];simp
theorem U23 (h:0<n):R0 n=n%4294967296 :: R0 (n/4294967296):=by
 rw[R0,dif_neg (by omega)]
theorem C5 (n:Nat):val (R0 n)=n:=by
 induction n using Nat.strongRecOn with
 | ind n ih=>
  by_cases h:n=0
  .subst h;rw[Z6];rfl
  .rw[U23 (by omega),val,ih _ (Nat.div_lt_self (by omega) (by omega))]
   omega
theorem V8 (n:Nat):Z4 (R0 n):=by
 induction n using Nat.strongRecOn with
 | ind n ih=>
  by_cases h:n=0
  .subst h;rw[Z6];intro e he;cases he
  .rw[U23 (by omega)]
   intro e he
   rcases List.mem_cons.1 he with rfl | he
   .omega
   .exact ih _ (Nat.div_lt_self (by omega) (by omega)) e he
theorem B27 {d:Nat}:Z4 (d :: ds)<->d<4294967296/\Z4 ds:=by
 unfold Z4;simp
theorem N41:Z4 []:=fun e he=>by cases he
theorem X28 (a b:List Nat):val (a++b)=val a+4294967296^a.length*val b:=by
 induction a with
 | nil=>simp[val]
 | cons d a ih=>simp only[List.cons_append,val,ih,List.length_cons,Nat.pow_succ];rw[Nat.mul_add,<- Nat.add_assoc,<- Nat.mul_assoc,Nat.mul_comm 4294967296 (4294967296^a.length)]
theorem X67 (h:Z4 ds):val ds<4294967296^ds.length:=by
 induction ds with
 | nil=>simp[val]
 | cons d ds ih=>
  have h1:=B27.1 h
  have h2:=ih h1.2
  simp only[val,List.length_cons,Nat.pow_succ]
  have h3:(val ds+1)*4294967296<=4294967296^ds.length*4294967296:=Nat.mul_le_mul_right _ h2
  omega
theorem G78 (k:Nat):val (List.replicate k 0)=0:=by
 induction k with
 | zero=>rfl
 | succ k ih=>rw[List.replicate_succ,val,ih]
theorem W18 (k:Nat):Z4 (List.replicate k 0):=fun e he=>by
 rw[List.mem_replicate] at he;omega
theorem U38 (h:Z4 ds):∃ k,ds=R0 (val ds)++List.replicate k 0:=by
 induction ds with
 | nil=>exact⟨0,by simp[val,Z6]⟩
 | cons d ds ih=>
  have h1:=B27.1 h
  obtain⟨k,hk⟩:=ih h1.2
  by_cases h0:val (d :: ds)=0
  .have hd:d=0:=by simp only[val] at h0;omega
   have hv:val ds=0:=by simp only[val] at h0;omega
   refine⟨k+1,?_⟩
   rw[h0,Z6,List.nil_append,List.replicate_succ,hd]
   rw[hv,Z6,List.nil_append] at hk
   rw[<- hk]
  .refine⟨k,?_⟩
   rw[U23 (by omega)]
   have e1:val (d :: ds)%4294967296=d:=by simp only[val];omega
   have e2:val (d :: ds)/4294967296=val ds:=by simp only[val];omega
   rw[e1,e2,List.cons_append,<- hk]
theorem B46 (h:Z4 ds):ds.take (R0 (val ds)).length=R0 (val ds):=by
 obtain⟨k,hk⟩:=U38 h
 generalize hv:R0 (val ds)=q at *
 rw[hk];simp
theorem Q60 (h:Z4 ds):(R0 (val ds)).length<=ds.length:=by
 obtain⟨k,hk⟩:=U38 h
 have:=congrArg List.length hk
 simp at this;omega
theorem N67 (h:Z4 ds) {i:Nat} (hi:(R0 (val ds)).length<=i) (hd:ds[i]? = some d):d=0:=by
 obtain⟨k,hk⟩:=U38 h
 rw[hk,List.getElem?_append_right hi,List.getElem?_replicate] at hd
 split at hd
 .cases hd;rfl
 .cases hd
theorem C25 (h:0<n):∃ d,(R0 n)[(R0 n).length-1]? = some d/\0<d/\0<(R0 n).length:=by
 induction n using Nat.strongRecOn with
 | ind n ih=>
  rw[U23 h]
  by_cases h1:n/4294967296=0
  .rw[h1,Z6]
   exact⟨n%4294967296,by simp,by omega,by simp⟩
  .obtain⟨d,hd,hp,hl⟩:=ih (n/4294967296) (Nat.div_lt_self (by omega) (by omega)) (by omega)
   refine⟨d,?_,hp,by simp⟩
   rw[List.length_cons,show (R0 (n/4294967296)).length+1-1=((R0 (n/4294967296)).length-1)+1 by omega,List.getElem?_cons_succ]
   exact hd
theorem K13:(R0 n).length=0<->n=0:=by
 constructor
 .intro h
  have h1:=C5 n
  rw[List.eq_nil_of_length_eq_zero h] at h1
  exact h1.symm
 .rintro rfl;rw[Z6];rfl
theorem U13 (n:Nat):n<4294967296^(R0 n).length:=by
 have:=X67 (V8 n)
 rwa [C5] at this
theorem C39 (h:0<n):4294967296^((R0 n).length-1)<=n:=by
 obtain⟨d,hd,hp,hl⟩:=C25 h
 have e:R0 n=(R0 n).take ((R0 n).length-1)++[d]:=by
  apply List.ext_getElem?
  intro i
  by_cases hi:i<(R0 n).length-1
  .rw[List.getElem?_append_left (by simp;omega),List.getElem?_take,if_pos hi]
  .rw[List.getElem?_append_right (by simp;omega)]
   by_cases h2:i=(R0 n).length-1
   .rw[h2,hd];simp
   .rw[List.getElem?_eq_none (by omega),List.getElem?_eq_none (by simp;omega)]
 have hv:=C5 n
 rw[e,X28] at hv
 have hlen:((R0 n).take ((R0 n).length-1)).length=(R0 n).length-1:=by simp
 rw[hlen,val,val] at hv
 have h3:4294967296^((R0 n).length-1)*1<=4294967296^((R0 n).length-1)*(d+4294967296*0):=Nat.mul_le_mul_left _ (by omega)
 omega
theorem X7 {k:Nat} (h:n<4294967296^k):(R0 n).length<=k:=by
 by_cases h0:n=0
 .subst h0;rw[Z6];simp
 .have h1:=C39 (show 0<n by omega)
  rcases Nat.lt_or_ge k (R0 n).length with g | g
  .have h2:4294967296^k<=4294967296^((R0 n).length-1):=Nat.pow_le_pow_right (by omega) (by omega)
   omega
  .exact g
end Go.Clo
