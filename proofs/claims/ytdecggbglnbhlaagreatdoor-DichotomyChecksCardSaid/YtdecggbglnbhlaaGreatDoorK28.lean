/-
  MADE BY PROGRAM (wip/gen/gen.py): functions 21 as marked code, and their claims written out.
-/
import Derived.Test.YtdecggbglnbhlaaGreatDoorK9
import Derived.KernelRfl
set_option linter.unusedSimpArgs false
set_option linter.unusedVariables false
set_option linter.unusedSectionVars false
namespace Go.Proofs.YtdecggbglnbhlaaGreatDoor
open Go.Clo
set_option maxRecDepth 100000
/-! 21: ordinal/dichotomy.Check -/
def d21 : D :=
  (.seq
    (.ops [
        (none, [⟨none, some 3, .a (.box (.s 0))⟩,
        ⟨none, some 5, .a (.box (.s 2))⟩,
        ⟨none, some 6, .p (.mv (.c (.bool false)))⟩])] (.one .nil))
    (.seq
      (.join [19] [7, 8, 9, 10, 11, 12, 13, 14, 15, 16, 17, 18]
        (.ops [
            (none, [⟨none, some 7, .r (.ld (.s 3) (some 2))⟩,
            ⟨none, some 8, .e (.call (.c (.func (.func 15) ⟨[]⟩ ⟨[]⟩)) [.s 7])⟩,
            ⟨none, some 9, .p (.bin .neq (.s 8) (.c (.int .i64 0)))⟩,
            ⟨none, some 10, .p (.mv (.s 9))⟩]),
            (some (10, false), [⟨none, some 11, .p (.mv (.s 1))⟩,
            ⟨none, some 12, .p (.bin .lss (.s 11) (.c (.int .i64 0)))⟩]),
            (none, [⟨none, some 13, .p (.pick (.s 10) (.c (.bool true)) (.s 12))⟩,
            ⟨none, some 14, .p (.mv (.s 13))⟩]),
            (some (14, false), [⟨none, some 15, .p (.mv (.s 1))⟩,
            ⟨none, some 16, .p (.fld (.s 3) 0)⟩,
            ⟨none, some 17, .r (.ld (.s 16) none)⟩,
            ⟨none, some 18, .p (.bin .gtr (.s 15) (.s 17))⟩]),
            (none, [⟨none, some 19, .p (.pick (.s 14) (.c (.bool true)) (.s 18))⟩])] (.one (.tst (.one (.tst (.one .nil) (.one .nil))) (.one (.one (.one .nil))))))
        (.cond (.s 19)
          (.seq
            (.ops [
                (none, [⟨none, some 6, .p (.mv (.c (.bool false)))⟩])] (.one .nil))
            .ret)
          .skip))
      (.seq
        (.seq
          (.ops [
              (none, [⟨none, some 20, .p (.fld (.s 5) 0)⟩,
              ⟨none, some 21, .r (.ld (.s 20) none)⟩,
              ⟨none, some 22, .p (.bin .eql (.s 21) (.c (.int .i64 0)))⟩])] (.one .nil))
          (.cond (.s 22)
            (.seq
              (.ops [
                  (none, [⟨none, some 23, .p (.fld (.s 5) 2)⟩,
                  ⟨none, some 24, .r (.ld (.s 23) none)⟩,
                  ⟨none, some 25, .r (.len (.s 24) 0)⟩,
                  ⟨none, some 26, .p (.bin .eql (.s 25) (.c (.int .i64 0)))⟩,
                  ⟨none, some 27, .p (.mv (.s 26))⟩]),
                  (some (27, true), [⟨none, some 28, .r (.ld (.s 3) (some 2))⟩,
                  ⟨none, some 29, .p (.mv (.s 1))⟩,
                  ⟨none, some 30, .p (.fld (.s 5) 1)⟩,
                  ⟨none, some 31, .r (.ld (.s 30) none)⟩,
                  ⟨none, some 32, .e (.call (.c (.func (.func 43) ⟨[]⟩ ⟨[]⟩)) [.s 28, .s 29, .s 31])⟩]),
                  (none, [⟨none, some 33, .p (.pick (.s 27) (.s 32) (.c (.bool false)))⟩,
                  ⟨none, some 6, .p (.mv (.s 33))⟩])] (.one (.tst (.one .nil) (.one .nil))))
              .ret)
            .skip))
        (.seq
          (.seq
            (.ops [
                (none, [⟨none, some 34, .p (.fld (.s 5) 1)⟩,
                ⟨none, some 35, .r (.ld (.s 34) none)⟩,
                ⟨none, some 36, .r (.len (.s 35) 0)⟩,
                ⟨none, some 37, .p (.bin .gtr (.s 36) (.c (.int .i64 0)))⟩])] (.one .nil))
            (.cond (.s 37)
              (.seq
                (.ops [
                    (none, [⟨none, some 6, .p (.mv (.c (.bool false)))⟩])] (.one .nil))
                .ret)
              .skip))
          (.seq
            (.seq
              (.ops [
                  (none, [⟨none, some 38, .p (.fld (.s 5) 0)⟩,
                  ⟨none, some 39, .r (.ld (.s 38) none)⟩])] (.one .nil))
              (.block 0
                (.seq
                  (.ops [
                      (none, [⟨none, some 41, .p (.bin .eql (.s 39) (.c (.int .i64 1)))⟩,
                      ⟨none, some 40, .p (.mv (.s 41))⟩])] (.one .nil))
                  (.cond (.s 40)
                    (.seq
                      (.ops [
                          (none, [⟨none, some 42, .r (.ld (.s 3) (some 2))⟩,
                          ⟨none, some 43, .p (.fld (.s 5) 2)⟩,
                          ⟨none, some 44, .r (.ld (.s 43) none)⟩,
                          ⟨none, some 45, .e (.call (.c (.func (.func 18) ⟨[]⟩ ⟨[]⟩)) [.s 42, .s 44])⟩,
                          ⟨none, some 6, .p (.mv (.s 45))⟩])] (.one .nil))
                      .ret)
                    (.seq
                      (.ops [
                          (none, [⟨none, some 47, .p (.bin .eql (.s 39) (.c (.int .i64 2)))⟩,
                          ⟨none, some 46, .p (.mv (.s 47))⟩])] (.one .nil))
                      (.cond (.s 46)
                        (.seq
                          (.ops [
                              (none, [⟨none, some 48, .r (.ld (.s 3) (some 2))⟩,
                              ⟨none, some 49, .p (.mv (.s 1))⟩,
                              ⟨none, some 50, .p (.fld (.s 5) 2)⟩,
                              ⟨none, some 51, .r (.ld (.s 50) none)⟩,
                              ⟨none, some 52, .e (.call (.c (.func (.func 19) ⟨[]⟩ ⟨[]⟩)) [.s 48, .s 49, .s 51])⟩,
                              ⟨none, some 6, .p (.mv (.s 52))⟩])] (.one .nil))
                          .ret)
                        (.seq
                          (.ops [
                              (none, [⟨none, some 54, .p (.bin .eql (.s 39) (.c (.int .i64 3)))⟩,
                              ⟨none, some 53, .p (.mv (.s 54))⟩])] (.one .nil))
                          (.cond (.s 53)
                            (.seq
                              (.draw [0, 1, 3, 7, 15, 31, 31, 31, 159, 415, 927, 2047, 4095, 8191] [
                                  (none, [⟨none, some 55, .p (.fld (.s 5) 2)⟩,
                                  ⟨none, some 56, .r (.ld (.s 55) none)⟩,
                                  ⟨none, some 57, .r (.len (.s 56) 0)⟩,
                                  ⟨none, some 58, .p (.bin .eql (.s 57) (.c (.int .i64 3)))⟩,
                                  ⟨none, some 59, .p (.mv (.s 58))⟩]),
                                  (some (59, true), [⟨none, some 60, .r (.ld (.s 3) (some 2))⟩,
                                  ⟨none, some 61, .p (.mv (.s 1))⟩,
                                  ⟨none, some 62, .p (.fld (.s 5) 2)⟩,
                                  ⟨none, some 63, .r (.ld (.s 62) none)⟩,
                                  ⟨none, some 64, .p (.vf (.s2a 3) [.s 63])⟩,
                                  ⟨none, some 65, .r (.ld (.s 64) (some 3))⟩,
                                  ⟨none, some 66, .e (.call (.c (.func (.func 20) ⟨[]⟩ ⟨[]⟩)) [.s 60, .s 61, .s 65])⟩]),
                                  (none, [⟨none, some 67, .p (.pick (.s 59) (.s 66) (.c (.bool false)))⟩,
                                  ⟨none, some 6, .p (.mv (.s 67))⟩])] (.one (.tst (.one .nil) (.one .nil))))
                              .ret)
                            .skip))))))))
            (.seq
              (.ops [
                  (none, [⟨none, some 6, .p (.mv (.c (.bool false)))⟩])] (.one .nil))
              .ret))))))
theorem cfn21 : cfn Tryz.prog 21 = some ⟨68, 7, d21.erase, [(.s 6, none)]⟩ := by kernel_rfl
theorem ok21 : d21.ok 68 7 = true := by kernel_rfl
noncomputable def F21 (a0 a1 a2 : Value) (H : Heap) (nx : Nat) (k : EP) : Prop :=
  dBox a0 fun tc_1 => wNew (.cells tc_1 0) .ptr H nx fun t3_2 H1 nx1 =>
  dBox a2 fun tc_3 => wNew (.cells tc_3 0) .ptr H1 nx1 fun t5_4 H2 nx2 =>
  wJoin (fun tj_5 =>
    wLd t3_2 (some 2) H2 fun t7_7 =>
    wCall Tryz.prog 15 [t7_7] H2 nx2 fun t8_8 H4 nx4 =>
    wBin .neq t8_8 (.int .i64 0) fun t9_9 =>
    wGuard false t9_9 (
      wBin .lss a1 (.int .i64 0) fun t12_10 =>
      wGuard false t12_10 (
        wFld t3_2 0 fun t16_11 =>
        wLd t16_11 none H4 fun t17_12 =>
        wBin .gtr a1 t17_12 fun t18_13 =>
        tj_5 [t18_13] H4 nx4) (
        tj_5 [(.bool true)] H4 nx4)) (
        tj_5 [(.bool true)] H4 nx4)) (fun tL_6 H3 nx3 =>
    wIf (tL_6.getD 0 undef) (
      forceV (.bool false) fun tv_14 => k tv_14 H3 nx3) (
      wFld t5_4 0 fun t20_15 =>
      wLd t20_15 none H3 fun t21_16 =>
      wBin .eql t21_16 (.int .i64 0) fun t22_17 =>
      wIf t22_17 (
        wFld t5_4 2 fun t23_18 =>
        wLd t23_18 none H3 fun t24_19 =>
        wLen t24_19 0 H3 fun t25_20 =>
        wBin .eql t25_20 (.int .i64 0) fun t26_21 =>
        wGuard true t26_21 (
          wLd t3_2 (some 2) H3 fun t28_22 =>
          wFld t5_4 1 fun t30_23 =>
          wLd t30_23 none H3 fun t31_24 =>
          wCall Tryz.prog 43 [t28_22, a1, t31_24] H3 nx3 fun t32_25 H5 nx5 =>
          forceV t32_25 fun tv_26 => k tv_26 H5 nx5) (
          forceV (.bool false) fun tv_27 => k tv_27 H3 nx3)) (
        wFld t5_4 1 fun t34_28 =>
        wLd t34_28 none H3 fun t35_29 =>
        wLen t35_29 0 H3 fun t36_30 =>
        wBin .gtr t36_30 (.int .i64 0) fun t37_31 =>
        wIf t37_31 (
          forceV (.bool false) fun tv_32 => k tv_32 H3 nx3) (
          wFld t5_4 0 fun t38_33 =>
          wLd t38_33 none H3 fun t39_34 =>
          wBin .eql t39_34 (.int .i64 1) fun t41_35 =>
          wIf t41_35 (
            wLd t3_2 (some 2) H3 fun t42_36 =>
            wFld t5_4 2 fun t43_37 =>
            wLd t43_37 none H3 fun t44_38 =>
            wCall Tryz.prog 18 [t42_36, t44_38] H3 nx3 fun t45_39 H6 nx6 =>
            forceV t45_39 fun tv_40 => k tv_40 H6 nx6) (
            wBin .eql t39_34 (.int .i64 2) fun t47_41 =>
            wIf t47_41 (
              wLd t3_2 (some 2) H3 fun t48_42 =>
              wFld t5_4 2 fun t50_43 =>
              wLd t50_43 none H3 fun t51_44 =>
              wCall Tryz.prog 19 [t48_42, a1, t51_44] H3 nx3 fun t52_45 H7 nx7 =>
              forceV t52_45 fun tv_46 => k tv_46 H7 nx7) (
              wBin .eql t39_34 (.int .i64 3) fun t54_47 =>
              wIf t54_47 (
                forceN (nx3 + 14) fun nx8 =>
                wFld t5_4 2 fun t55_48 =>
                wLd t55_48 none H3 fun t56_49 =>
                wLen t56_49 0 H3 fun t57_50 =>
                wBin .eql t57_50 (.int .i64 3) fun t58_51 =>
                wGuard true t58_51 (
                  wLd t3_2 (some 2) H3 fun t60_52 =>
                  wFld t5_4 2 fun t62_53 =>
                  wLd t62_53 none H3 fun t63_54 =>
                  wVf (.s2a 3) [t63_54] fun t64_55 =>
                  wLd t64_55 (some 3) H3 fun t65_56 =>
                  wCall Tryz.prog 20 [t60_52, a1, t65_56] H3 nx8 fun t66_57 H9 nx9 =>
                  (((((True) ∧ ((wLd t64_55 (some 3) H3 fun tq_62 => tq_62 = t65_56) ∧ True)) ∧ (((True) ∧ ((wLd t62_53 none H3 fun tq_61 => tq_61 = t63_54) ∧ True)) ∧ (((True) ∧ ((wLd t3_2 (some 2) H3 fun tq_60 => tq_60 = t60_52) ∧ True)) ∧ (((True) ∧ ((wLen t56_49 0 H3 fun tq_59 => tq_59 = t57_50) ∧ True)) ∧ (((True) ∧ ((wLd t55_48 none H3 fun tq_58 => tq_58 = t56_49) ∧ True)) ∧ True)))))) ∧ (
                    forceV t66_57 fun tv_63 => k tv_63 H9 nx9)) ∨ False) (
                  (((((wLen t56_49 0 H3 fun tq_65 => tq_65 = t57_50) ∧ True) ∧ (((wLd t55_48 none H3 fun tq_64 => tq_64 = t56_49) ∧ True) ∧ True))) ∧ (
                    forceV (.bool false) fun tv_66 => k tv_66 H3 nx8)) ∨ False)) (
                forceV (.bool false) fun tv_67 => k tv_67 H3 nx3)))))))
theorem eq21 (a0 a1 a2 : Value) (H : Heap) (nx : Nat) (k : EP) : wBody Tryz.prog 68 7 d21 [(.s 6, none)] [a0, a1, a2] H nx k = F21 a0 a1 a2 H nx k := by kernel_rfl
theorem spec21 {a0 a1 a2 : Value} {H : Heap} {nx : Nat} {k : EP} (h : F21 a0 a1 a2 H nx k) : Ans Tryz.prog 21 [a0, a1, a2] H nx k :=
  spec_of_body mixed namesOK cfn21 ok21 (by simp) ((eq21 a0 a1 a2 H nx k).symm ▸ h)

end Go.Proofs.YtdecggbglnbhlaaGreatDoor
