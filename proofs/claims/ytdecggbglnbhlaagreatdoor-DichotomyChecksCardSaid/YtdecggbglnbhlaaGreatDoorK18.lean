/-
  MADE BY PROGRAM (wip/gen/gen.py): functions 18 19 20 38 60 61 43 7 as marked code, and their claims written out.
-/
import Derived.Test.YtdecggbglnbhlaaGreatDoorK9
import Derived.KernelRfl
set_option linter.unusedSimpArgs false
set_option linter.unusedVariables false
set_option linter.unusedSectionVars false
namespace Go.Proofs.YtdecggbglnbhlaaGreatDoor
open Go.Clo
set_option maxRecDepth 100000
/-! 18: ordinal/hypergraph.CheckObstruction -/
def d18 : D :=
  (.seq
    (.ops [
        (none, [⟨none, some 2, .a (.box (.s 0))⟩,
        ⟨none, some 4, .p (.mv (.c (.bool false)))⟩])] (.one .nil))
    (.seq
      (.seq
        (.ops [
            (none, [⟨none, some 18, .r (.ld (.s 2) (some 2))⟩,
            ⟨none, some 19, .e (.call (.c (.func (.func 15) ⟨[]⟩ ⟨[]⟩)) [.s 18])⟩,
            ⟨none, some 20, .p (.bin .neq (.s 19) (.c (.int .i64 0)))⟩])] (.one .nil))
        (.cond (.s 20)
          (.seq
            (.ops [
                (none, [⟨none, some 4, .p (.mv (.c (.bool false)))⟩])] (.one .nil))
            .ret)
          .skip))
      (.seq
        (.ops [
            (none, [⟨none, some 5, .p (.mv (.c (.int .u32 0)))⟩])] (.one .nil))
        (.seq
          (.seq
            (.ops [
                (none, [⟨none, some 21, .p (.mv (.s 1))⟩,
                ⟨none, some 22, .r (.len (.s 21) 0)⟩,
                ⟨none, some 23, .p (.mv (.c (.int .i64 0)))⟩])] (.one .nil))
            (.block 0
              (.loop [5, 23] [4, 7, 24, 25, 26, 27, 28, 29, 30, 31, 32, 33, 34, 35, 36, 37, 38, 39, 40, 41, 42, 43, 44, 45, 46]
                (.seq
                  (.ops [
                      (none, [⟨none, some 24, .p (.bin .lss (.s 23) (.s 22))⟩])] (.one .nil))
                  (.seq
                    (.cond (.s 24)
                      .skip
                      (.exit 0))
                    (.seq
                      (.block 1
                        (.seq
                          (.ops [
                              (none, [⟨none, some 25, .p (.idx (.s 21) (.s 23) none 1)⟩,
                              ⟨none, some 26, .r (.ld (.s 25) none)⟩,
                              ⟨none, some 7, .p (.mv (.s 26))⟩])] (.one .nil))
                          (.seq
                            (.join [41] [27, 28, 29, 30, 31, 32, 33, 34, 35, 36, 37, 38, 39, 40]
                              (.ops [
                                  (none, [⟨none, some 27, .p (.mv (.s 7))⟩,
                                  ⟨none, some 28, .p (.bin .lss (.s 27) (.c (.int .i64 0)))⟩,
                                  ⟨none, some 29, .p (.mv (.s 28))⟩]),
                                  (some (29, false), [⟨none, some 30, .p (.mv (.s 7))⟩,
                                  ⟨none, some 31, .p (.fld (.s 2) 0)⟩,
                                  ⟨none, some 32, .r (.ld (.s 31) none)⟩,
                                  ⟨none, some 33, .p (.bin .geq (.s 30) (.s 32))⟩]),
                                  (none, [⟨none, some 34, .p (.pick (.s 29) (.c (.bool true)) (.s 33))⟩,
                                  ⟨none, some 35, .p (.mv (.s 34))⟩]),
                                  (some (35, false), [⟨none, some 36, .p (.mv (.s 5))⟩,
                                  ⟨none, some 37, .p (.mv (.s 7))⟩,
                                  ⟨none, some 38, .p (.bin .shr (.s 36) (.s 37))⟩,
                                  ⟨none, some 39, .p (.bin .and (.s 38) (.c (.int .u32 1)))⟩,
                                  ⟨none, some 40, .p (.bin .eql (.s 39) (.c (.int .u32 1)))⟩]),
                                  (none, [⟨none, some 41, .p (.pick (.s 35) (.c (.bool true)) (.s 40))⟩])] (.one (.tst (.one (.tst (.one .nil) (.one .nil))) (.one (.one (.one .nil))))))
                              (.cond (.s 41)
                                (.seq
                                  (.ops [
                                      (none, [⟨none, some 4, .p (.mv (.c (.bool false)))⟩])] (.one .nil))
                                  .ret)
                                .skip))
                            (.ops [
                                (none, [⟨none, some 42, .p (.mv (.s 5))⟩,
                                ⟨none, some 43, .p (.mv (.s 7))⟩,
                                ⟨none, some 44, .p (.bin .shl (.c (.int .u32 1)) (.s 43))⟩,
                                ⟨none, some 45, .p (.bin .or (.s 42) (.s 44))⟩,
                                ⟨none, some 5, .p (.mv (.s 45))⟩])] (.one .nil)))))
                      (.ops [
                          (none, [⟨none, some 46, .p (.bin .add (.s 23) (.c (.int .i64 1)))⟩,
                          ⟨none, some 23, .p (.mv (.s 46))⟩])] (.one .nil))))))))
          (.seq
            (.ops [
                (none, [⟨none, some 47, .r (.ld (.s 2) (some 2))⟩,
                ⟨none, some 48, .e (.call (.c (.func (.func 37) ⟨[]⟩ ⟨[]⟩)) [.s 47])⟩,
                ⟨none, some 8, .a (.alloc [.int .u32 0, .int .u32 0, .int .u32 0, .int .u32 0, .int .u32 0, .int .u32 0, .int .u32 0, .int .u32 0, .int .u32 0, .int .u32 0, .int .u32 0, .int .u32 0, .int .u32 0, .int .u32 0, .int .u32 0, .int .u32 0, .int .u32 0, .int .u32 0, .int .u32 0, .int .u32 0, .int .u32 0, .int .u32 0, .int .u32 0, .int .u32 0, .int .u32 0, .int .u32 0, .int .u32 0, .int .u32 0, .int .u32 0, .int .u32 0, .int .u32 0, .int .u32 0])⟩,
                ⟨none, none, .e (.st (.s 8) (.s 48) 32)⟩])] (.one .nil))
            (.seq
              (.ops [
                  (none, [⟨none, some 49, .p (.mv (.s 1))⟩,
                  ⟨none, some 50, .r (.len (.s 49) 0)⟩,
                  ⟨none, some 51, .p (.bin .geq (.s 50) (.c (.int .i64 3)))⟩,
                  ⟨none, some 52, .p (.mv (.s 1))⟩,
                  ⟨none, some 53, .r (.len (.s 52) 0)⟩,
                  ⟨none, some 54, .p (.bin .geq (.s 53) (.c (.int .i64 4)))⟩,
                  ⟨none, some 9, .p (.mv (.s 51))⟩,
                  ⟨none, some 10, .p (.mv (.s 54))⟩])] (.one .nil))
              (.seq
                (.seq
                  (.ops [
                      (none, [⟨none, some 55, .p (.mv (.s 1))⟩,
                      ⟨none, some 56, .r (.len (.s 55) 0)⟩,
                      ⟨none, some 57, .p (.mv (.c (.int .i64 0)))⟩])] (.one .nil))
                  (.block 2
                    (.loop [9, 10, 57] [11, 12, 13, 14, 15, 58, 59, 60, 61, 62, 63, 64, 65, 66, 67, 68, 69, 70, 71, 72, 73, 74, 75, 76, 77, 78, 79, 80, 81, 82, 83, 84, 85, 86, 87, 88, 89, 90, 91, 92, 93, 94, 95, 96, 97, 98, 99, 100, 101, 102]
                      (.seq
                        (.ops [
                            (none, [⟨none, some 58, .p (.bin .lss (.s 57) (.s 56))⟩])] (.one .nil))
                        (.seq
                          (.cond (.s 58)
                            .skip
                            (.exit 2))
                          (.seq
                            (.block 3
                              (.seq
                                (.ops [
                                    (none, [⟨none, some 59, .p (.mv (.s 57))⟩,
                                    ⟨none, some 60, .p (.idx (.s 55) (.s 57) none 1)⟩,
                                    ⟨none, some 61, .r (.ld (.s 60) none)⟩,
                                    ⟨none, some 11, .p (.mv (.s 59))⟩,
                                    ⟨none, some 12, .p (.mv (.s 61))⟩])] (.one .nil))
                                (.seq
                                  (.ops [
                                      (none, [⟨none, some 62, .p (.mv (.s 11))⟩,
                                      ⟨none, some 63, .p (.mv (.c (.int .i64 0)))⟩])] (.one .nil))
                                  (.block 4
                                    (.loop [9, 10, 63] [13, 14, 15, 64, 65, 66, 67, 68, 69, 70, 71, 72, 73, 74, 75, 76, 77, 78, 79, 80, 81, 82, 83, 84, 85, 86, 87, 88, 89, 90, 91, 92, 93, 94, 95, 96, 97, 98, 99, 100, 101]
                                      (.seq
                                        (.ops [
                                            (none, [⟨none, some 64, .p (.bin .lss (.s 63) (.s 62))⟩])] (.one .nil))
                                        (.seq
                                          (.cond (.s 64)
                                            .skip
                                            (.exit 4))
                                          (.join [9, 10] [13, 14, 15, 65, 66, 67, 68, 69, 70, 71, 72, 73, 74, 75, 76, 77, 78, 79, 80, 81, 82, 83, 84, 85, 86, 87, 88, 89, 90, 91, 92, 93, 94, 95, 96, 97, 98, 99, 100]
                                            (.block 5
                                              (.seq
                                                (.ops [
                                                    (none, [⟨none, some 65, .p (.mv (.s 63))⟩,
                                                    ⟨none, some 13, .p (.mv (.s 65))⟩])] (.one .nil))
                                                (.join [14] [66, 67, 68, 69, 70, 71, 72, 73, 74, 75, 76, 77, 78, 79, 80]
                                                  (.ops [
                                                      (none, [⟨none, some 66, .p (.mv (.s 13))⟩,
                                                      ⟨none, some 67, .p (.mv (.s 11))⟩,
                                                      ⟨none, some 68, .p (.bin .sub (.s 67) (.c (.int .i64 1)))⟩,
                                                      ⟨none, some 69, .p (.bin .eql (.s 66) (.s 68))⟩,
                                                      ⟨none, some 70, .p (.mv (.s 69))⟩]),
                                                      (some (70, false), [⟨none, some 71, .p (.mv (.s 13))⟩,
                                                      ⟨none, some 72, .p (.bin .eql (.s 71) (.c (.int .i64 0)))⟩,
                                                      ⟨none, some 73, .p (.mv (.s 72))⟩]),
                                                      (some (73, true), [⟨none, some 74, .p (.mv (.s 11))⟩,
                                                      ⟨none, some 75, .p (.mv (.s 1))⟩,
                                                      ⟨none, some 76, .r (.len (.s 75) 0)⟩,
                                                      ⟨none, some 77, .p (.bin .sub (.s 76) (.c (.int .i64 1)))⟩,
                                                      ⟨none, some 78, .p (.bin .eql (.s 74) (.s 77))⟩]),
                                                      (some (70, false), [⟨none, some 79, .p (.pick (.s 73) (.s 78) (.c (.bool false)))⟩]),
                                                      (none, [⟨none, some 80, .p (.pick (.s 70) (.c (.bool true)) (.s 79))⟩,
                                                      ⟨none, some 14, .p (.mv (.s 80))⟩])] (.one (.tst (.tst (.one (.one .nil)) (.one (.one .nil))) (.one (.one (.one .nil))))))
                                                  (.seq
                                                    (.draw [0, 1, 3, 0, 0, 24, 56, 127, 255, 511, 1023] [
                                                        (none, [⟨none, some 81, .p (.mv (.s 12))⟩,
                                                        ⟨none, some 82, .p (.idx (.s 8) (.s 81) (some 32) 1)⟩,
                                                        ⟨none, some 83, .r (.ld (.s 82) none)⟩,
                                                        ⟨none, some 84, .p (.mv (.s 1))⟩,
                                                        ⟨none, some 85, .p (.mv (.s 13))⟩,
                                                        ⟨none, some 86, .p (.idx (.s 84) (.s 85) none 1)⟩,
                                                        ⟨none, some 87, .r (.ld (.s 86) none)⟩,
                                                        ⟨none, some 88, .p (.bin .shr (.s 83) (.s 87))⟩,
                                                        ⟨none, some 89, .p (.bin .and (.s 88) (.c (.int .u32 1)))⟩,
                                                        ⟨none, some 90, .p (.bin .eql (.s 89) (.c (.int .u32 1)))⟩,
                                                        ⟨none, some 15, .p (.mv (.s 90))⟩])] (.one .nil))
                                                    (.join [9] [91, 92, 93, 94]
                                                      (.ops [
                                                          (none, [⟨none, some 91, .p (.mv (.s 9))⟩,
                                                          ⟨none, some 92, .p (.mv (.s 91))⟩]),
                                                          (some (92, true), [⟨none, some 93, .p (.mv (.s 15))⟩]),
                                                          (none, [⟨none, some 94, .p (.pick (.s 92) (.s 93) (.c (.bool false)))⟩,
                                                          ⟨none, some 9, .p (.mv (.s 94))⟩])] (.one (.tst (.one .nil) (.one .nil))))
                                                      (.ops [
                                                          (none, [⟨none, some 95, .p (.mv (.s 10))⟩,
                                                          ⟨none, some 96, .p (.mv (.s 95))⟩]),
                                                          (some (96, true), [⟨none, some 97, .p (.mv (.s 15))⟩,
                                                          ⟨none, some 98, .p (.mv (.s 14))⟩,
                                                          ⟨none, some 99, .p (.vf (.eqb false) [.s 97, .s 98])⟩]),
                                                          (none, [⟨none, some 100, .p (.pick (.s 96) (.s 99) (.c (.bool false)))⟩,
                                                          ⟨none, some 10, .p (.mv (.s 100))⟩])] (.one (.tst (.one .nil) (.one .nil)))))))))
                                            (.ops [
                                                (none, [⟨none, some 101, .p (.bin .add (.s 63) (.c (.int .i64 1)))⟩,
                                                ⟨none, some 63, .p (.mv (.s 101))⟩])] (.one .nil))))))))))
                            (.ops [
                                (none, [⟨none, some 102, .p (.bin .add (.s 57) (.c (.int .i64 1)))⟩,
                                ⟨none, some 57, .p (.mv (.s 102))⟩])] (.one .nil))))))))
                (.seq
                  (.seq
                    (.ops [
                        (none, [⟨none, some 103, .p (.mv (.s 9))⟩])] (.one .nil))
                    (.cond (.s 103)
                      (.seq
                        (.ops [
                            (none, [⟨none, some 105, .r (.ld (.s 2) (some 2))⟩,
                            ⟨none, some 106, .p (.mv (.s 5))⟩,
                            ⟨none, some 107, .e (.call (.c (.func (.func 38) ⟨[]⟩ ⟨[]⟩)) [.s 105, .s 106])⟩,
                            ⟨none, some 104, .p (.mv (.s 107))⟩,
                            ⟨none, some 108, .p (.ext (.s 104) 0)⟩,
                            ⟨none, some 109, .p (.ext (.s 104) 1)⟩,
                            ⟨none, some 16, .p (.mv (.s 108))⟩,
                            ⟨none, some 17, .p (.mv (.s 109))⟩])] (.one .nil))
                        (.seq
                          (.ops [
                              (none, [⟨none, some 110, .p (.mv (.s 17))⟩,
                              ⟨none, some 111, .p (.un .not (.s 110))⟩,
                              ⟨none, some 4, .p (.mv (.s 111))⟩])] (.one .nil))
                          .ret))
                      .skip))
                  (.seq
                    (.ops [
                        (none, [⟨none, some 112, .p (.mv (.s 10))⟩,
                        ⟨none, some 4, .p (.mv (.s 112))⟩])] (.one .nil))
                    .ret)))))))))
theorem cfn18 : cfn Tryz.prog 18 = some ⟨113, 7, d18.erase, [(.s 4, none)]⟩ := by kernel_rfl
theorem ok18 : d18.ok 113 7 = true := by kernel_rfl
noncomputable def F18 (a0 a1 : Value) (H : Heap) (nx : Nat) (k : EP) : Prop :=
  dBox a0 fun tc_1 => wNew (.cells tc_1 0) .ptr H nx fun t2_2 H1 nx1 =>
  wLd t2_2 (some 2) H1 fun t18_3 =>
  wCall Tryz.prog 15 [t18_3] H1 nx1 fun t19_4 H2 nx2 =>
  wBin .neq t19_4 (.int .i64 0) fun t20_5 =>
  wIf t20_5 (
    forceV (.bool false) fun tv_6 => k tv_6 H2 nx2) (
    wLen a1 0 H2 fun t22_7 =>
    wLoop (fun tih_8 tL_9 H3 nx3 =>
      wBin .lss (tL_9.getD 1 undef) t22_7 fun t24_10 =>
      wIf t24_10 (
        wIdx a1 (tL_9.getD 1 undef) none 1 fun t25_11 =>
        wLd t25_11 none H3 fun t26_12 =>
        wJoin (fun tj_13 =>
          wBin .lss t26_12 (.int .i64 0) fun t28_15 =>
          wGuard false t28_15 (
            wFld t2_2 0 fun t31_16 =>
            wLd t31_16 none H3 fun t32_17 =>
            wBin .geq t26_12 t32_17 fun t33_18 =>
            wGuard false t33_18 (
              wBin .shr (tL_9.getD 0 undef) t26_12 fun t38_19 =>
              wBin .and t38_19 (.int .u32 1) fun t39_20 =>
              wBin .eql t39_20 (.int .u32 1) fun t40_21 =>
              tj_13 [t40_21] H3 nx3) (
              tj_13 [(.bool true)] H3 nx3)) (
              tj_13 [(.bool true)] H3 nx3)) (fun tL_14 H4 nx4 =>
          wIf (tL_14.getD 0 undef) (
            forceV (.bool false) fun tv_22 => k tv_22 H4 nx4) (
            wBin .shl (.int .u32 1) t26_12 fun t44_23 =>
            wBin .or (tL_9.getD 0 undef) t44_23 fun t45_24 =>
            wBin .add (tL_9.getD 1 undef) (.int .i64 1) fun t46_25 =>
            tih_8 [t45_24, t46_25] H4 nx4))) (
        wLd t2_2 (some 2) H3 fun t47_26 =>
        wCall Tryz.prog 37 [t47_26] H3 nx3 fun t48_27 H5 nx5 =>
        wNew (.cells [.int .u32 0, .int .u32 0, .int .u32 0, .int .u32 0, .int .u32 0, .int .u32 0, .int .u32 0, .int .u32 0, .int .u32 0, .int .u32 0, .int .u32 0, .int .u32 0, .int .u32 0, .int .u32 0, .int .u32 0, .int .u32 0, .int .u32 0, .int .u32 0, .int .u32 0, .int .u32 0, .int .u32 0, .int .u32 0, .int .u32 0, .int .u32 0, .int .u32 0, .int .u32 0, .int .u32 0, .int .u32 0, .int .u32 0, .int .u32 0, .int .u32 0, .int .u32 0] 0) .ptr H5 nx5 fun t8_28 H6 nx6 =>
        wSt t8_28 t48_27 32 H6 fun H7 =>
        wLen a1 0 H7 fun t50_29 =>
        wBin .geq t50_29 (.int .i64 3) fun t51_30 =>
        wLen a1 0 H7 fun t53_31 =>
        wBin .geq t53_31 (.int .i64 4) fun t54_32 =>
        wLen a1 0 H7 fun t56_33 =>
        wLoop (fun tih_34 tL_35 H8 nx8 =>
          wBin .lss (tL_35.getD 2 undef) t56_33 fun t58_36 =>
          wIf t58_36 (
            wIdx a1 (tL_35.getD 2 undef) none 1 fun t60_37 =>
            wLd t60_37 none H8 fun t61_38 =>
            wLoop (fun tih_39 tL_40 H9 nx9 =>
              wBin .lss (tL_40.getD 2 undef) (tL_35.getD 2 undef) fun t64_41 =>
              wIf t64_41 (
                wJoin (fun tj_42 =>
                  wJoin (fun tj_44 =>
                    wBin .sub (tL_35.getD 2 undef) (.int .i64 1) fun t68_46 =>
                    wBin .eql (tL_40.getD 2 undef) t68_46 fun t69_47 =>
                    wGuard false t69_47 (
                      wBin .eql (tL_40.getD 2 undef) (.int .i64 0) fun t72_48 =>
                      wGuard true t72_48 (
                        wLen a1 0 H9 fun t76_49 =>
                        wBin .sub t76_49 (.int .i64 1) fun t77_50 =>
                        wBin .eql (tL_35.getD 2 undef) t77_50 fun t78_51 =>
                          tj_44 [t78_51] H9 nx9) (
                          tj_44 [(.bool false)] H9 nx9)) (
                          tj_44 [(.bool true)] H9 nx9)) (fun tL_45 H11 nx11 =>
                    forceN (nx11 + 11) fun nx12 =>
                    wIdx t8_28 t61_38 (some 32) 1 fun t82_52 =>
                    wLd t82_52 none H11 fun t83_53 =>
                    wIdx a1 (tL_40.getD 2 undef) none 1 fun t86_54 =>
                    wLd t86_54 none H11 fun t87_55 =>
                    wBin .shr t83_53 t87_55 fun t88_56 =>
                    wBin .and t88_56 (.int .u32 1) fun t89_57 =>
                    wBin .eql t89_57 (.int .u32 1) fun t90_58 =>
                    (((((wLd t86_54 none H11 fun tq_60 => tq_60 = t87_55) ∧ True) ∧ (((wLd t82_52 none H11 fun tq_59 => tq_59 = t83_53) ∧ True) ∧ True))) ∧ (
                      wJoin (fun tj_61 =>
                        wGuard true (tL_40.getD 0 undef) (
                          tj_61 [t90_58] H11 nx12) (
                          tj_61 [(.bool false)] H11 nx12)) (fun tL_62 H13 nx13 =>
                        wGuard true (tL_40.getD 1 undef) (
                          wVf (.eqb false) [t90_58, (tL_45.getD 0 undef)] fun t99_63 =>
                          tj_42 [(tL_62.getD 0 undef), t99_63] H13 nx13) (
                          tj_42 [(tL_62.getD 0 undef), (.bool false)] H13 nx13)))) ∨ False)) (fun tL_43 H10 nx10 =>
                  wBin .add (tL_40.getD 2 undef) (.int .i64 1) fun t101_64 =>
                  tih_39 [(tL_43.getD 0 undef), (tL_43.getD 1 undef), t101_64] H10 nx10)) (
                wBin .add (tL_35.getD 2 undef) (.int .i64 1) fun t102_65 =>
                tih_34 [(tL_40.getD 0 undef), (tL_40.getD 1 undef), t102_65] H9 nx9)) [(tL_35.getD 0 undef), (tL_35.getD 1 undef), (.int .i64 0)] H8 nx8) (
            wIf (tL_35.getD 0 undef) (
              wLd t2_2 (some 2) H8 fun t105_66 =>
              wCall Tryz.prog 38 [t105_66, (tL_9.getD 0 undef)] H8 nx8 fun t107_67 H14 nx14 =>
              wExt t107_67 0 fun t108_68 =>
              wExt t107_67 1 fun t109_69 =>
              wUn .not t109_69 fun t111_70 =>
              forceV t111_70 fun tv_71 => k tv_71 H14 nx14) (
              forceV (tL_35.getD 1 undef) fun tv_72 => k tv_72 H8 nx8))) [t51_30, t54_32, (.int .i64 0)] H7 nx6)) [(.int .u32 0), (.int .i64 0)] H2 nx2)
theorem eq18 (a0 a1 : Value) (H : Heap) (nx : Nat) (k : EP) : wBody Tryz.prog 113 7 d18 [(.s 4, none)] [a0, a1] H nx k = F18 a0 a1 H nx k := by kernel_rfl
theorem spec18 {a0 a1 : Value} {H : Heap} {nx : Nat} {k : EP} (h : F18 a0 a1 H nx k) : Ans Tryz.prog 18 [a0, a1] H nx k :=
  spec_of_body mixed namesOK cfn18 ok18 (by simp) ((eq18 a0 a1 H nx k).symm ▸ h)

/-! 19: ordinal/connex.CheckPath -/
def d19 : D :=
  (.seq
    (.ops [
        (none, [⟨none, some 3, .a (.box (.s 0))⟩,
        ⟨none, some 6, .p (.mv (.c (.bool false)))⟩])] (.one .nil))
    (.seq
      (.join [24] [16, 17, 18, 19, 20, 21, 22, 23]
        (.ops [
            (none, [⟨none, some 16, .r (.ld (.s 3) (some 2))⟩,
            ⟨none, some 17, .p (.mv (.s 1))⟩,
            ⟨none, some 18, .e (.call (.c (.func (.func 39) ⟨[]⟩ ⟨[]⟩)) [.s 16, .s 17])⟩,
            ⟨none, some 19, .p (.bin .neq (.s 18) (.c (.int .i64 0)))⟩,
            ⟨none, some 20, .p (.mv (.s 19))⟩]),
            (some (20, false), [⟨none, some 21, .p (.mv (.s 2))⟩,
            ⟨none, some 22, .r (.len (.s 21) 0)⟩,
            ⟨none, some 23, .p (.bin .lss (.s 22) (.c (.int .i64 3)))⟩]),
            (none, [⟨none, some 24, .p (.pick (.s 20) (.c (.bool true)) (.s 23))⟩])] (.one (.tst (.one .nil) (.one .nil))))
        (.cond (.s 24)
          (.seq
            (.ops [
                (none, [⟨none, some 6, .p (.mv (.c (.bool false)))⟩])] (.one .nil))
            .ret)
          .skip))
      (.seq
        (.ops [
            (none, [⟨none, some 7, .p (.mv (.c (.int .u32 0)))⟩])] (.one .nil))
        (.seq
          (.seq
            (.ops [
                (none, [⟨none, some 25, .p (.mv (.s 2))⟩,
                ⟨none, some 26, .r (.len (.s 25) 0)⟩,
                ⟨none, some 27, .p (.mv (.c (.int .i64 0)))⟩])] (.one .nil))
            (.block 0
              (.loop [7, 27] [6, 9, 28, 29, 30, 31, 32, 33, 34, 35, 36, 37, 38, 39, 40, 41, 42, 43, 44, 45, 46, 47, 48, 49, 50]
                (.seq
                  (.ops [
                      (none, [⟨none, some 28, .p (.bin .lss (.s 27) (.s 26))⟩])] (.one .nil))
                  (.seq
                    (.cond (.s 28)
                      .skip
                      (.exit 0))
                    (.seq
                      (.block 1
                        (.seq
                          (.ops [
                              (none, [⟨none, some 29, .p (.idx (.s 25) (.s 27) none 1)⟩,
                              ⟨none, some 30, .r (.ld (.s 29) none)⟩,
                              ⟨none, some 9, .p (.mv (.s 30))⟩])] (.one .nil))
                          (.seq
                            (.join [45] [31, 32, 33, 34, 35, 36, 37, 38, 39, 40, 41, 42, 43, 44]
                              (.ops [
                                  (none, [⟨none, some 31, .p (.mv (.s 9))⟩,
                                  ⟨none, some 32, .p (.bin .lss (.s 31) (.c (.int .i64 0)))⟩,
                                  ⟨none, some 33, .p (.mv (.s 32))⟩]),
                                  (some (33, false), [⟨none, some 34, .p (.mv (.s 9))⟩,
                                  ⟨none, some 35, .p (.fld (.s 3) 0)⟩,
                                  ⟨none, some 36, .r (.ld (.s 35) none)⟩,
                                  ⟨none, some 37, .p (.bin .geq (.s 34) (.s 36))⟩]),
                                  (none, [⟨none, some 38, .p (.pick (.s 33) (.c (.bool true)) (.s 37))⟩,
                                  ⟨none, some 39, .p (.mv (.s 38))⟩]),
                                  (some (39, false), [⟨none, some 40, .p (.mv (.s 7))⟩,
                                  ⟨none, some 41, .p (.mv (.s 9))⟩,
                                  ⟨none, some 42, .p (.bin .shr (.s 40) (.s 41))⟩,
                                  ⟨none, some 43, .p (.bin .and (.s 42) (.c (.int .u32 1)))⟩,
                                  ⟨none, some 44, .p (.bin .eql (.s 43) (.c (.int .u32 1)))⟩]),
                                  (none, [⟨none, some 45, .p (.pick (.s 39) (.c (.bool true)) (.s 44))⟩])] (.one (.tst (.one (.tst (.one .nil) (.one .nil))) (.one (.one (.one .nil))))))
                              (.cond (.s 45)
                                (.seq
                                  (.ops [
                                      (none, [⟨none, some 6, .p (.mv (.c (.bool false)))⟩])] (.one .nil))
                                  .ret)
                                .skip))
                            (.ops [
                                (none, [⟨none, some 46, .p (.mv (.s 7))⟩,
                                ⟨none, some 47, .p (.mv (.s 9))⟩,
                                ⟨none, some 48, .p (.bin .shl (.c (.int .u32 1)) (.s 47))⟩,
                                ⟨none, some 49, .p (.bin .or (.s 46) (.s 48))⟩,
                                ⟨none, some 7, .p (.mv (.s 49))⟩])] (.one .nil)))))
                      (.ops [
                          (none, [⟨none, some 50, .p (.bin .add (.s 27) (.c (.int .i64 1)))⟩,
                          ⟨none, some 27, .p (.mv (.s 50))⟩])] (.one .nil))))))))
          (.seq
            (.ops [
                (none, [⟨none, some 51, .r (.ld (.s 3) (some 2))⟩,
                ⟨none, some 52, .e (.call (.c (.func (.func 40) ⟨[]⟩ ⟨[]⟩)) [.s 51])⟩,
                ⟨none, some 10, .a (.alloc [.int .u32 0, .int .u32 0, .int .u32 0, .int .u32 0, .int .u32 0, .int .u32 0, .int .u32 0, .int .u32 0, .int .u32 0, .int .u32 0, .int .u32 0, .int .u32 0, .int .u32 0, .int .u32 0, .int .u32 0, .int .u32 0, .int .u32 0, .int .u32 0, .int .u32 0, .int .u32 0, .int .u32 0, .int .u32 0, .int .u32 0, .int .u32 0, .int .u32 0, .int .u32 0, .int .u32 0, .int .u32 0, .int .u32 0, .int .u32 0, .int .u32 0, .int .u32 0])⟩,
                ⟨none, none, .e (.st (.s 10) (.s 52) 32)⟩])] (.one .nil))
            (.seq
              (.seq
                (.ops [
                    (none, [⟨none, some 53, .p (.mv (.s 2))⟩,
                    ⟨none, some 54, .r (.len (.s 53) 0)⟩,
                    ⟨none, some 55, .p (.mv (.c (.int .i64 0)))⟩])] (.one .nil))
                (.block 2
                  (.loop [55] [6, 11, 12, 13, 14, 15, 56, 57, 58, 59, 60, 61, 62, 63, 64, 65, 66, 67, 68, 69, 70, 71, 72, 73, 74, 75, 76, 77, 78, 79, 80, 81, 82, 83, 84, 85, 86, 87, 88, 89, 90, 91, 92, 93, 94, 95]
                    (.seq
                      (.ops [
                          (none, [⟨none, some 56, .p (.bin .lss (.s 55) (.s 54))⟩])] (.one .nil))
                      (.seq
                        (.cond (.s 56)
                          .skip
                          (.exit 2))
                        (.seq
                          (.block 3
                            (.seq
                              (.ops [
                                  (none, [⟨none, some 57, .p (.mv (.s 55))⟩,
                                  ⟨none, some 58, .p (.idx (.s 53) (.s 55) none 1)⟩,
                                  ⟨none, some 59, .r (.ld (.s 58) none)⟩,
                                  ⟨none, some 11, .p (.mv (.s 57))⟩,
                                  ⟨none, some 12, .p (.mv (.s 59))⟩])] (.one .nil))
                              (.join [13] [60, 61, 62, 63, 64, 65, 66, 67, 68]
                                (.ops [
                                    (none, [⟨none, some 60, .p (.mv (.s 11))⟩,
                                    ⟨none, some 61, .p (.bin .eql (.s 60) (.c (.int .i64 0)))⟩,
                                    ⟨none, some 62, .p (.mv (.s 61))⟩]),
                                    (some (62, false), [⟨none, some 63, .p (.mv (.s 11))⟩,
                                    ⟨none, some 64, .p (.mv (.s 2))⟩,
                                    ⟨none, some 65, .r (.len (.s 64) 0)⟩,
                                    ⟨none, some 66, .p (.bin .sub (.s 65) (.c (.int .i64 1)))⟩,
                                    ⟨none, some 67, .p (.bin .eql (.s 63) (.s 66))⟩]),
                                    (none, [⟨none, some 68, .p (.pick (.s 62) (.c (.bool true)) (.s 67))⟩,
                                    ⟨none, some 13, .p (.mv (.s 68))⟩])] (.one (.tst (.one .nil) (.one .nil))))
                                (.seq
                                  (.seq
                                    (.ops [
                                        (none, [⟨none, some 69, .p (.mv (.s 13))⟩,
                                        ⟨none, some 70, .p (.mv (.s 12))⟩,
                                        ⟨none, some 71, .p (.mv (.s 1))⟩,
                                        ⟨none, some 72, .p (.bin .lss (.s 70) (.s 71))⟩,
                                        ⟨none, some 73, .p (.vf (.eqb true) [.s 69, .s 72])⟩])] (.one .nil))
                                    (.cond (.s 73)
                                      (.seq
                                        (.ops [
                                            (none, [⟨none, some 6, .p (.mv (.c (.bool false)))⟩])] (.one .nil))
                                        .ret)
                                      .skip))
                                  (.seq
                                    (.ops [
                                        (none, [⟨none, some 74, .p (.mv (.s 11))⟩,
                                        ⟨none, some 75, .p (.mv (.c (.int .i64 0)))⟩])] (.one .nil))
                                    (.block 4
                                      (.loop [75] [6, 14, 15, 76, 77, 78, 79, 80, 81, 82, 83, 84, 85, 86, 87, 88, 89, 90, 91, 92, 93, 94]
                                        (.seq
                                          (.ops [
                                              (none, [⟨none, some 76, .p (.bin .lss (.s 75) (.s 74))⟩])] (.one .nil))
                                          (.seq
                                            (.cond (.s 76)
                                              .skip
                                              (.exit 4))
                                            (.seq
                                              (.block 5
                                                (.seq
                                                  (.ops [
                                                      (none, [⟨none, some 77, .p (.mv (.s 75))⟩,
                                                      ⟨none, some 14, .p (.mv (.s 77))⟩])] (.one .nil))
                                                  (.seq
                                                    (.draw [0, 1, 3, 0, 0, 24, 56, 127, 255, 511, 1023] [
                                                        (none, [⟨none, some 78, .p (.mv (.s 12))⟩,
                                                        ⟨none, some 79, .p (.idx (.s 10) (.s 78) (some 32) 1)⟩,
                                                        ⟨none, some 80, .r (.ld (.s 79) none)⟩,
                                                        ⟨none, some 81, .p (.mv (.s 2))⟩,
                                                        ⟨none, some 82, .p (.mv (.s 14))⟩,
                                                        ⟨none, some 83, .p (.idx (.s 81) (.s 82) none 1)⟩,
                                                        ⟨none, some 84, .r (.ld (.s 83) none)⟩,
                                                        ⟨none, some 85, .p (.bin .shr (.s 80) (.s 84))⟩,
                                                        ⟨none, some 86, .p (.bin .and (.s 85) (.c (.int .u32 1)))⟩,
                                                        ⟨none, some 87, .p (.bin .eql (.s 86) (.c (.int .u32 1)))⟩,
                                                        ⟨none, some 15, .p (.mv (.s 87))⟩])] (.one .nil))
                                                    (.seq
                                                      (.ops [
                                                          (none, [⟨none, some 88, .p (.mv (.s 15))⟩,
                                                          ⟨none, some 89, .p (.mv (.s 14))⟩,
                                                          ⟨none, some 90, .p (.mv (.s 11))⟩,
                                                          ⟨none, some 91, .p (.bin .sub (.s 90) (.c (.int .i64 1)))⟩,
                                                          ⟨none, some 92, .p (.bin .eql (.s 89) (.s 91))⟩,
                                                          ⟨none, some 93, .p (.vf (.eqb true) [.s 88, .s 92])⟩])] (.one .nil))
                                                      (.cond (.s 93)
                                                        (.seq
                                                          (.ops [
                                                              (none, [⟨none, some 6, .p (.mv (.c (.bool false)))⟩])] (.one .nil))
                                                          .ret)
                                                        .skip)))))
                                              (.ops [
                                                  (none, [⟨none, some 94, .p (.bin .add (.s 75) (.c (.int .i64 1)))⟩,
                                                  ⟨none, some 75, .p (.mv (.s 94))⟩])] (.one .nil))))))))))))
                          (.ops [
                              (none, [⟨none, some 95, .p (.bin .add (.s 55) (.c (.int .i64 1)))⟩,
                              ⟨none, some 55, .p (.mv (.s 95))⟩])] (.one .nil))))))))
              (.seq
                (.ops [
                    (none, [⟨none, some 6, .p (.mv (.c (.bool true)))⟩])] (.one .nil))
                .ret)))))))
theorem cfn19 : cfn Tryz.prog 19 = some ⟨96, 7, d19.erase, [(.s 6, none)]⟩ := by kernel_rfl
theorem ok19 : d19.ok 96 7 = true := by kernel_rfl
noncomputable def F19 (a0 a1 a2 : Value) (H : Heap) (nx : Nat) (k : EP) : Prop :=
  dBox a0 fun tc_1 => wNew (.cells tc_1 0) .ptr H nx fun t3_2 H1 nx1 =>
  wJoin (fun tj_3 =>
    wLd t3_2 (some 2) H1 fun t16_5 =>
    wCall Tryz.prog 39 [t16_5, a1] H1 nx1 fun t18_6 H3 nx3 =>
    wBin .neq t18_6 (.int .i64 0) fun t19_7 =>
    wGuard false t19_7 (
      wLen a2 0 H3 fun t22_8 =>
      wBin .lss t22_8 (.int .i64 3) fun t23_9 =>
      tj_3 [t23_9] H3 nx3) (
      tj_3 [(.bool true)] H3 nx3)) (fun tL_4 H2 nx2 =>
    wIf (tL_4.getD 0 undef) (
      forceV (.bool false) fun tv_10 => k tv_10 H2 nx2) (
      wLen a2 0 H2 fun t26_11 =>
      wLoop (fun tih_12 tL_13 H4 nx4 =>
        wBin .lss (tL_13.getD 1 undef) t26_11 fun t28_14 =>
        wIf t28_14 (
          wIdx a2 (tL_13.getD 1 undef) none 1 fun t29_15 =>
          wLd t29_15 none H4 fun t30_16 =>
          wJoin (fun tj_17 =>
            wBin .lss t30_16 (.int .i64 0) fun t32_19 =>
            wGuard false t32_19 (
              wFld t3_2 0 fun t35_20 =>
              wLd t35_20 none H4 fun t36_21 =>
              wBin .geq t30_16 t36_21 fun t37_22 =>
              wGuard false t37_22 (
                wBin .shr (tL_13.getD 0 undef) t30_16 fun t42_23 =>
                wBin .and t42_23 (.int .u32 1) fun t43_24 =>
                wBin .eql t43_24 (.int .u32 1) fun t44_25 =>
                tj_17 [t44_25] H4 nx4) (
                tj_17 [(.bool true)] H4 nx4)) (
                tj_17 [(.bool true)] H4 nx4)) (fun tL_18 H5 nx5 =>
            wIf (tL_18.getD 0 undef) (
              forceV (.bool false) fun tv_26 => k tv_26 H5 nx5) (
              wBin .shl (.int .u32 1) t30_16 fun t48_27 =>
              wBin .or (tL_13.getD 0 undef) t48_27 fun t49_28 =>
              wBin .add (tL_13.getD 1 undef) (.int .i64 1) fun t50_29 =>
              tih_12 [t49_28, t50_29] H5 nx5))) (
          wLd t3_2 (some 2) H4 fun t51_30 =>
          wCall Tryz.prog 40 [t51_30] H4 nx4 fun t52_31 H6 nx6 =>
          wNew (.cells [.int .u32 0, .int .u32 0, .int .u32 0, .int .u32 0, .int .u32 0, .int .u32 0, .int .u32 0, .int .u32 0, .int .u32 0, .int .u32 0, .int .u32 0, .int .u32 0, .int .u32 0, .int .u32 0, .int .u32 0, .int .u32 0, .int .u32 0, .int .u32 0, .int .u32 0, .int .u32 0, .int .u32 0, .int .u32 0, .int .u32 0, .int .u32 0, .int .u32 0, .int .u32 0, .int .u32 0, .int .u32 0, .int .u32 0, .int .u32 0, .int .u32 0, .int .u32 0] 0) .ptr H6 nx6 fun t10_32 H7 nx7 =>
          wSt t10_32 t52_31 32 H7 fun H8 =>
          wLen a2 0 H8 fun t54_33 =>
          wLoop (fun tih_34 tL_35 H9 nx9 =>
            wBin .lss (tL_35.getD 0 undef) t54_33 fun t56_36 =>
            wIf t56_36 (
              wIdx a2 (tL_35.getD 0 undef) none 1 fun t58_37 =>
              wLd t58_37 none H9 fun t59_38 =>
              wJoin (fun tj_39 =>
                wBin .eql (tL_35.getD 0 undef) (.int .i64 0) fun t61_41 =>
                wGuard false t61_41 (
                  wLen a2 0 H9 fun t65_42 =>
                  wBin .sub t65_42 (.int .i64 1) fun t66_43 =>
                  wBin .eql (tL_35.getD 0 undef) t66_43 fun t67_44 =>
                  tj_39 [t67_44] H9 nx9) (
                  tj_39 [(.bool true)] H9 nx9)) (fun tL_40 H10 nx10 =>
                wBin .lss t59_38 a1 fun t72_45 =>
                wVf (.eqb true) [(tL_40.getD 0 undef), t72_45] fun t73_46 =>
                wIf t73_46 (
                  forceV (.bool false) fun tv_47 => k tv_47 H10 nx10) (
                  wLoop (fun tih_48 tL_49 H11 nx11 =>
                    wBin .lss (tL_49.getD 0 undef) (tL_35.getD 0 undef) fun t76_50 =>
                    wIf t76_50 (
                      forceN (nx11 + 11) fun nx12 =>
                      wIdx t10_32 t59_38 (some 32) 1 fun t79_51 =>
                      wLd t79_51 none H11 fun t80_52 =>
                      wIdx a2 (tL_49.getD 0 undef) none 1 fun t83_53 =>
                      wLd t83_53 none H11 fun t84_54 =>
                      wBin .shr t80_52 t84_54 fun t85_55 =>
                      wBin .and t85_55 (.int .u32 1) fun t86_56 =>
                      wBin .eql t86_56 (.int .u32 1) fun t87_57 =>
                      (((((wLd t83_53 none H11 fun tq_59 => tq_59 = t84_54) ∧ True) ∧ (((wLd t79_51 none H11 fun tq_58 => tq_58 = t80_52) ∧ True) ∧ True))) ∧ (
                        wBin .sub (tL_35.getD 0 undef) (.int .i64 1) fun t91_60 =>
                        wBin .eql (tL_49.getD 0 undef) t91_60 fun t92_61 =>
                        wVf (.eqb true) [t87_57, t92_61] fun t93_62 =>
                        wIf t93_62 (
                          forceV (.bool false) fun tv_63 => k tv_63 H11 nx12) (
                          wBin .add (tL_49.getD 0 undef) (.int .i64 1) fun t94_64 =>
                          tih_48 [t94_64] H11 nx12))) ∨ False) (
                      wBin .add (tL_35.getD 0 undef) (.int .i64 1) fun t95_65 =>
                      tih_34 [t95_65] H11 nx11)) [(.int .i64 0)] H10 nx10))) (
              forceV (.bool true) fun tv_66 => k tv_66 H9 nx9)) [(.int .i64 0)] H8 nx7)) [(.int .u32 0), (.int .i64 0)] H2 nx2))
theorem eq19 (a0 a1 a2 : Value) (H : Heap) (nx : Nat) (k : EP) : wBody Tryz.prog 96 7 d19 [(.s 6, none)] [a0, a1, a2] H nx k = F19 a0 a1 a2 H nx k := by kernel_rfl
theorem spec19 {a0 a1 a2 : Value} {H : Heap} {nx : Nat} {k : EP} (h : F19 a0 a1 a2 H nx k) : Ans Tryz.prog 19 [a0, a1, a2] H nx k :=
  spec_of_body mixed namesOK cfn19 ok19 (by simp) ((eq19 a0 a1 a2 H nx k).symm ▸ h)

/-! 20: ordinal/trio.Check -/
def d20 : D :=
  (.seq
    (.ops [
        (none, [⟨none, some 3, .a (.box (.s 0))⟩,
        ⟨none, some 5, .a (.box (.s 2))⟩,
        ⟨none, some 6, .p (.mv (.c (.bool false)))⟩])] (.one .nil))
    (.seq
      (.join [36] [8, 9, 10, 11, 12, 13, 14, 15, 16, 17, 18, 19, 20, 21, 22, 23, 24, 25, 26, 27, 28, 29, 30, 31, 32, 33, 34, 35]
        (.ops [
            (none, [⟨none, some 8, .r (.ld (.s 3) (some 2))⟩,
            ⟨none, some 9, .p (.mv (.s 1))⟩,
            ⟨none, some 10, .e (.call (.c (.func (.func 41) ⟨[]⟩ ⟨[]⟩)) [.s 8, .s 9])⟩,
            ⟨none, some 11, .p (.un .not (.s 10))⟩,
            ⟨none, some 12, .p (.mv (.s 11))⟩]),
            (some (12, false), [⟨none, some 13, .p (.idx (.s 5) (.c (.int .i64 0)) (some 3) 1)⟩,
            ⟨none, some 14, .r (.ld (.s 13) none)⟩,
            ⟨none, some 15, .p (.bin .lss (.s 14) (.c (.int .i64 0)))⟩]),
            (none, [⟨none, some 16, .p (.pick (.s 12) (.c (.bool true)) (.s 15))⟩,
            ⟨none, some 17, .p (.mv (.s 16))⟩]),
            (some (17, false), [⟨none, some 18, .p (.idx (.s 5) (.c (.int .i64 0)) (some 3) 1)⟩,
            ⟨none, some 19, .r (.ld (.s 18) none)⟩,
            ⟨none, some 20, .p (.idx (.s 5) (.c (.int .i64 1)) (some 3) 1)⟩,
            ⟨none, some 21, .r (.ld (.s 20) none)⟩,
            ⟨none, some 22, .p (.bin .geq (.s 19) (.s 21))⟩]),
            (none, [⟨none, some 23, .p (.pick (.s 17) (.c (.bool true)) (.s 22))⟩,
            ⟨none, some 24, .p (.mv (.s 23))⟩]),
            (some (24, false), [⟨none, some 25, .p (.idx (.s 5) (.c (.int .i64 1)) (some 3) 1)⟩,
            ⟨none, some 26, .r (.ld (.s 25) none)⟩,
            ⟨none, some 27, .p (.idx (.s 5) (.c (.int .i64 2)) (some 3) 1)⟩,
            ⟨none, some 28, .r (.ld (.s 27) none)⟩,
            ⟨none, some 29, .p (.bin .geq (.s 26) (.s 28))⟩]),
            (none, [⟨none, some 30, .p (.pick (.s 24) (.c (.bool true)) (.s 29))⟩,
            ⟨none, some 31, .p (.mv (.s 30))⟩]),
            (some (31, false), [⟨none, some 32, .p (.idx (.s 5) (.c (.int .i64 2)) (some 3) 1)⟩,
            ⟨none, some 33, .r (.ld (.s 32) none)⟩,
            ⟨none, some 34, .p (.mv (.s 1))⟩,
            ⟨none, some 35, .p (.bin .geq (.s 33) (.s 34))⟩]),
            (none, [⟨none, some 36, .p (.pick (.s 31) (.c (.bool true)) (.s 35))⟩])] (.one (.tst (.one (.tst (.one (.tst (.one (.tst (.one .nil) (.one .nil))) (.one (.one (.one .nil))))) (.one (.one (.one (.one (.one .nil))))))) (.one (.one (.one (.one (.one (.one (.one .nil))))))))))
        (.cond (.s 36)
          (.seq
            (.ops [
                (none, [⟨none, some 6, .p (.mv (.c (.bool false)))⟩])] (.one .nil))
            .ret)
          .skip))
      (.seq
        (.draw [0, 1, 3, 0, 8, 24, 63, 127] [
            (none, [⟨none, some 37, .p (.idx (.s 5) (.c (.int .i64 0)) (some 3) 1)⟩,
            ⟨none, some 38, .r (.ld (.s 37) none)⟩,
            ⟨none, some 39, .p (.bin .shl (.c (.int .u32 1)) (.s 38))⟩,
            ⟨none, some 40, .p (.idx (.s 5) (.c (.int .i64 1)) (some 3) 1)⟩,
            ⟨none, some 41, .r (.ld (.s 40) none)⟩,
            ⟨none, some 42, .p (.bin .shl (.c (.int .u32 1)) (.s 41))⟩,
            ⟨none, some 43, .p (.bin .or (.s 39) (.s 42))⟩,
            ⟨none, some 7, .p (.mv (.s 43))⟩])] (.one .nil))
        (.seq
          (.ops [
              (none, [⟨none, some 44, .r (.ld (.s 3) (some 2))⟩,
              ⟨none, some 45, .p (.idx (.s 5) (.c (.int .i64 2)) (some 3) 1)⟩,
              ⟨none, some 46, .r (.ld (.s 45) none)⟩,
              ⟨none, some 47, .e (.call (.c (.func (.func 42) ⟨[]⟩ ⟨[]⟩)) [.s 44, .s 46])⟩,
              ⟨none, some 48, .p (.mv (.s 7))⟩,
              ⟨none, some 49, .p (.bin .and (.s 47) (.s 48))⟩,
              ⟨none, some 50, .p (.mv (.s 7))⟩,
              ⟨none, some 51, .p (.bin .eql (.s 49) (.s 50))⟩,
              ⟨none, some 52, .p (.mv (.s 51))⟩]),
              (some (52, true), [⟨none, some 53, .r (.ld (.s 3) (some 2))⟩,
              ⟨none, some 54, .p (.idx (.s 5) (.c (.int .i64 0)) (some 3) 1)⟩,
              ⟨none, some 55, .r (.ld (.s 54) none)⟩,
              ⟨none, some 56, .e (.call (.c (.func (.func 42) ⟨[]⟩ ⟨[]⟩)) [.s 53, .s 55])⟩,
              ⟨none, some 57, .p (.mv (.s 7))⟩,
              ⟨none, some 58, .p (.bin .and (.s 56) (.s 57))⟩,
              ⟨none, some 59, .p (.bin .eql (.s 58) (.c (.int .u32 0)))⟩]),
              (none, [⟨none, some 60, .p (.pick (.s 52) (.s 59) (.c (.bool false)))⟩,
              ⟨none, some 6, .p (.mv (.s 60))⟩])] (.one (.tst (.one .nil) (.one .nil))))
          .ret))))
theorem cfn20 : cfn Tryz.prog 20 = some ⟨61, 6, d20.erase, [(.s 6, none)]⟩ := by kernel_rfl
theorem ok20 : d20.ok 61 6 = true := by kernel_rfl
noncomputable def F20 (a0 a1 a2 : Value) (H : Heap) (nx : Nat) (k : EP) : Prop :=
  dBox a0 fun tc_1 => wNew (.cells tc_1 0) .ptr H nx fun t3_2 H1 nx1 =>
  dBox a2 fun tc_3 => wNew (.cells tc_3 0) .ptr H1 nx1 fun t5_4 H2 nx2 =>
  wJoin (fun tj_5 =>
    wLd t3_2 (some 2) H2 fun t8_7 =>
    wCall Tryz.prog 41 [t8_7, a1] H2 nx2 fun t10_8 H4 nx4 =>
    wUn .not t10_8 fun t11_9 =>
    wGuard false t11_9 (
      wIdx t5_4 (.int .i64 0) (some 3) 1 fun t13_10 =>
      wLd t13_10 none H4 fun t14_11 =>
      wBin .lss t14_11 (.int .i64 0) fun t15_12 =>
      wGuard false t15_12 (
        wIdx t5_4 (.int .i64 0) (some 3) 1 fun t18_13 =>
        wLd t18_13 none H4 fun t19_14 =>
        wIdx t5_4 (.int .i64 1) (some 3) 1 fun t20_15 =>
        wLd t20_15 none H4 fun t21_16 =>
        wBin .geq t19_14 t21_16 fun t22_17 =>
        wGuard false t22_17 (
          wIdx t5_4 (.int .i64 1) (some 3) 1 fun t25_18 =>
          wLd t25_18 none H4 fun t26_19 =>
          wIdx t5_4 (.int .i64 2) (some 3) 1 fun t27_20 =>
          wLd t27_20 none H4 fun t28_21 =>
          wBin .geq t26_19 t28_21 fun t29_22 =>
          wGuard false t29_22 (
            wIdx t5_4 (.int .i64 2) (some 3) 1 fun t32_23 =>
            wLd t32_23 none H4 fun t33_24 =>
            wBin .geq t33_24 a1 fun t35_25 =>
            tj_5 [t35_25] H4 nx4) (
            tj_5 [(.bool true)] H4 nx4)) (
            tj_5 [(.bool true)] H4 nx4)) (
            tj_5 [(.bool true)] H4 nx4)) (
            tj_5 [(.bool true)] H4 nx4)) (fun tL_6 H3 nx3 =>
    wIf (tL_6.getD 0 undef) (
      forceV (.bool false) fun tv_26 => k tv_26 H3 nx3) (
      forceN (nx3 + 8) fun nx5 =>
      wIdx t5_4 (.int .i64 0) (some 3) 1 fun t37_27 =>
      wLd t37_27 none H3 fun t38_28 =>
      wBin .shl (.int .u32 1) t38_28 fun t39_29 =>
      wIdx t5_4 (.int .i64 1) (some 3) 1 fun t40_30 =>
      wLd t40_30 none H3 fun t41_31 =>
      wBin .shl (.int .u32 1) t41_31 fun t42_32 =>
      wBin .or t39_29 t42_32 fun t43_33 =>
      (((((wLd t40_30 none H3 fun tq_35 => tq_35 = t41_31) ∧ True) ∧ (((wLd t37_27 none H3 fun tq_34 => tq_34 = t38_28) ∧ True) ∧ True))) ∧ (
        wLd t3_2 (some 2) H3 fun t44_36 =>
        wIdx t5_4 (.int .i64 2) (some 3) 1 fun t45_37 =>
        wLd t45_37 none H3 fun t46_38 =>
        wCall Tryz.prog 42 [t44_36, t46_38] H3 nx5 fun t47_39 H6 nx6 =>
        wBin .and t47_39 t43_33 fun t49_40 =>
        wBin .eql t49_40 t43_33 fun t51_41 =>
        wGuard true t51_41 (
          wLd t3_2 (some 2) H6 fun t53_42 =>
          wIdx t5_4 (.int .i64 0) (some 3) 1 fun t54_43 =>
          wLd t54_43 none H6 fun t55_44 =>
          wCall Tryz.prog 42 [t53_42, t55_44] H6 nx6 fun t56_45 H7 nx7 =>
          wBin .and t56_45 t43_33 fun t58_46 =>
          wBin .eql t58_46 (.int .u32 0) fun t59_47 =>
          forceV t59_47 fun tv_48 => k tv_48 H7 nx7) (
          forceV (.bool false) fun tv_49 => k tv_49 H6 nx6))) ∨ False))
theorem eq20 (a0 a1 a2 : Value) (H : Heap) (nx : Nat) (k : EP) : wBody Tryz.prog 61 6 d20 [(.s 6, none)] [a0, a1, a2] H nx k = F20 a0 a1 a2 H nx k := by kernel_rfl
theorem spec20 {a0 a1 a2 : Value} {H : Heap} {nx : Nat} {k : EP} (h : F20 a0 a1 a2 H nx k) : Ans Tryz.prog 20 [a0, a1, a2] H nx k :=
  spec_of_body mixed namesOK cfn20 ok20 (by simp) ((eq20 a0 a1 a2 H nx k).symm ▸ h)

/-! 38: ordinal/hypergraph.Inside -/
def d38 : D :=
  (.seq
    (.ops [
        (none, [⟨none, some 2, .a (.box (.s 0))⟩,
        ⟨none, some 3, .a (.box (.s 1))⟩,
        ⟨none, some 4, .p (.mv (.c (.int .i64 0)))⟩,
        ⟨none, some 5, .p (.mv (.c (.bool false)))⟩])] (.one .nil))
    (.seq
      (.seq
        (.ops [
            (none, [⟨none, some 7, .r (.ld (.s 2) (some 2))⟩,
            ⟨none, some 8, .e (.call (.c (.func (.func 15) ⟨[]⟩ ⟨[]⟩)) [.s 7])⟩,
            ⟨none, some 9, .p (.bin .neq (.s 8) (.c (.int .i64 0)))⟩])] (.one .nil))
        (.cond (.s 9)
          (.seq
            (.ops [
                (none, [⟨none, some 4, .p (.mv (.c (.int .i64 0)))⟩,
                ⟨none, some 5, .p (.mv (.c (.bool false)))⟩])] (.one .nil))
            .ret)
          .skip))
      (.seq
        (.ops [
            (none, [⟨none, some 10, .p (.fld (.s 2) 1)⟩,
            ⟨none, some 11, .r (.ld (.s 10) none)⟩,
            ⟨none, some 12, .p (.mkf (.func 61) [] [.s 3])⟩,
            ⟨none, some 13, .e (.call (.c (.func (.func 60) ⟨[]⟩ ⟨[]⟩)) [.s 11, .s 12])⟩,
            ⟨none, some 6, .p (.mv (.s 13))⟩])] (.one .nil))
        (.seq
          (.ops [
              (none, [⟨none, some 14, .p (.mv (.s 6))⟩,
              ⟨none, some 15, .p (.vf (.mm true) [.s 14, .c (.int .i64 0)])⟩,
              ⟨none, some 16, .p (.mv (.s 6))⟩,
              ⟨none, some 17, .p (.bin .geq (.s 16) (.c (.int .i64 0)))⟩,
              ⟨none, some 4, .p (.mv (.s 15))⟩,
              ⟨none, some 5, .p (.mv (.s 17))⟩])] (.one .nil))
          .ret))))
theorem cfn38 : cfn Tryz.prog 38 = some ⟨18, 5, d38.erase, [(.s 4, none), (.s 5, none)]⟩ := by kernel_rfl
theorem ok38 : d38.ok 18 5 = true := by kernel_rfl
noncomputable def F38 (a0 a1 : Value) (H : Heap) (nx : Nat) (k : EP) : Prop :=
  dBox a0 fun tc_1 => wNew (.cells tc_1 0) .ptr H nx fun t2_2 H1 nx1 =>
  dBox a1 fun tc_3 => wNew (.cells tc_3 0) .ptr H1 nx1 fun t3_4 H2 nx2 =>
  wLd t2_2 (some 2) H2 fun t7_5 =>
  wCall Tryz.prog 15 [t7_5] H2 nx2 fun t8_6 H3 nx3 =>
  wBin .neq t8_6 (.int .i64 0) fun t9_7 =>
  wIf t9_7 (
    forceV (.tuple ⟨[(.int .i64 0), (.bool false)]⟩) fun tv_8 => k tv_8 H3 nx3) (
    wFld t2_2 1 fun t10_9 =>
    wLd t10_9 none H3 fun t11_10 =>
    wCall Tryz.prog 60 [t11_10, (.func (.func 61) ⟨[]⟩ ⟨[t3_4]⟩)] H3 nx3 fun t13_11 H4 nx4 =>
    wVf (.mm true) [t13_11, (.int .i64 0)] fun t15_12 =>
    wBin .geq t13_11 (.int .i64 0) fun t17_13 =>
    forceV (.tuple ⟨[t15_12, t17_13]⟩) fun tv_14 => k tv_14 H4 nx4)
theorem eq38 (a0 a1 : Value) (H : Heap) (nx : Nat) (k : EP) : wBody Tryz.prog 18 5 d38 [(.s 4, none), (.s 5, none)] [a0, a1] H nx k = F38 a0 a1 H nx k := by kernel_rfl
theorem spec38 {a0 a1 : Value} {H : Heap} {nx : Nat} {k : EP} (h : F38 a0 a1 H nx k) : Ans Tryz.prog 38 [a0, a1] H nx k :=
  spec_of_body mixed namesOK cfn38 ok38 (by simp) ((eq38 a0 a1 H nx k).symm ▸ h)

/-! 60: slices.IndexFunc[[]uint32,uint32] -/
def d60 : D :=
  (.seq
    (.ops [
        (none, [⟨none, some 4, .p (.mv (.c (.int .i64 0)))⟩])] (.one .nil))
    (.seq
      (.seq
        (.ops [
            (none, [⟨none, some 6, .p (.mv (.s 0))⟩,
            ⟨none, some 7, .r (.len (.s 6) 0)⟩,
            ⟨none, some 8, .p (.mv (.c (.int .i64 0)))⟩])] (.one .nil))
        (.block 0
          (.loop [8] [4, 5, 9, 10, 11, 12, 13, 14, 15, 16, 17, 18]
            (.seq
              (.ops [
                  (none, [⟨none, some 9, .p (.bin .lss (.s 8) (.s 7))⟩])] (.one .nil))
              (.seq
                (.cond (.s 9)
                  .skip
                  (.exit 0))
                (.seq
                  (.block 1
                    (.seq
                      (.ops [
                          (none, [⟨none, some 10, .p (.mv (.s 8))⟩,
                          ⟨none, some 5, .p (.mv (.s 10))⟩])] (.one .nil))
                      (.seq
                        (.ops [
                            (none, [⟨none, some 11, .p (.mv (.s 1))⟩,
                            ⟨none, some 12, .p (.mv (.s 0))⟩,
                            ⟨none, some 13, .p (.mv (.s 5))⟩,
                            ⟨none, some 14, .p (.idx (.s 12) (.s 13) none 1)⟩,
                            ⟨none, some 15, .r (.ld (.s 14) none)⟩,
                            ⟨none, some 16, .e (.call (.s 11) [.s 15])⟩])] (.one .nil))
                        (.cond (.s 16)
                          (.seq
                            (.ops [
                                (none, [⟨none, some 17, .p (.mv (.s 5))⟩,
                                ⟨none, some 4, .p (.mv (.s 17))⟩])] (.one .nil))
                            .ret)
                          .skip))))
                  (.ops [
                      (none, [⟨none, some 18, .p (.bin .add (.s 8) (.c (.int .i64 1)))⟩,
                      ⟨none, some 8, .p (.mv (.s 18))⟩])] (.one .nil))))))))
      (.seq
        (.ops [
            (none, [⟨none, some 4, .p (.mv (.c (.int .i64 (-1))))⟩])] (.one .nil))
        .ret)))
theorem cfn60 : cfn Tryz.prog 60 = some ⟨19, 5, d60.erase, [(.s 4, none)]⟩ := by kernel_rfl
theorem ok60 : d60.ok 19 5 = true := by kernel_rfl
noncomputable def F60 (a0 a1 : Value) (H : Heap) (nx : Nat) (k : EP) : Prop :=
  wLen a0 0 H fun t7_1 =>
  wLoop (fun tih_2 tL_3 H1 nx1 =>
    wBin .lss (tL_3.getD 0 undef) t7_1 fun t9_4 =>
    wIf t9_4 (
      wIdx a0 (tL_3.getD 0 undef) none 1 fun t14_5 =>
      wLd t14_5 none H1 fun t15_6 =>
      wCallV Tryz.prog a1 [t15_6] H1 nx1 fun t16_7 H2 nx2 =>
      wIf t16_7 (
        forceV (tL_3.getD 0 undef) fun tv_8 => k tv_8 H2 nx2) (
        wBin .add (tL_3.getD 0 undef) (.int .i64 1) fun t18_9 =>
        tih_2 [t18_9] H2 nx2)) (
      forceV (.int .i64 (-1)) fun tv_10 => k tv_10 H1 nx1)) [(.int .i64 0)] H nx
theorem eq60 (a0 a1 : Value) (H : Heap) (nx : Nat) (k : EP) : wBody Tryz.prog 19 5 d60 [(.s 4, none)] [a0, a1] H nx k = F60 a0 a1 H nx k := by kernel_rfl
theorem spec60 {a0 a1 : Value} {H : Heap} {nx : Nat} {k : EP} (h : F60 a0 a1 H nx k) : Ans Tryz.prog 60 [a0, a1] H nx k :=
  spec_of_body mixed namesOK cfn60 ok60 (by simp) ((eq60 a0 a1 H nx k).symm ▸ h)

/-! 61: ordinal/hypergraph.Inside$1 -/
def d61 : D :=
  (.seq
    (.ops [
        (none, [⟨none, some 3, .p (.mv (.c (.bool false)))⟩])] (.one .nil))
    (.seq
      (.ops [
          (none, [⟨none, some 4, .r (.ld (.s 1) none)⟩,
          ⟨none, some 5, .p (.mv (.s 0))⟩,
          ⟨none, some 6, .p (.bin .andNot (.s 4) (.s 5))⟩,
          ⟨none, some 7, .p (.bin .eql (.s 6) (.c (.int .u32 0)))⟩,
          ⟨none, some 3, .p (.mv (.s 7))⟩])] (.one .nil))
      .ret))
theorem cfn61 : cfn Tryz.prog 61 = some ⟨8, 4, d61.erase, [(.s 3, none)]⟩ := by kernel_rfl
theorem ok61 : d61.ok 8 4 = true := by kernel_rfl
noncomputable def F61 (a0 a1 : Value) (H : Heap) (nx : Nat) (k : EP) : Prop :=
  wLd a1 none H fun t4_1 =>
  wBin .andNot t4_1 a0 fun t6_2 =>
  wBin .eql t6_2 (.int .u32 0) fun t7_3 =>
  forceV t7_3 fun tv_4 => k tv_4 H nx
theorem eq61 (a0 a1 : Value) (H : Heap) (nx : Nat) (k : EP) : wBody Tryz.prog 8 4 d61 [(.s 3, none)] [a0, a1] H nx k = F61 a0 a1 H nx k := by kernel_rfl
theorem spec61 {a0 a1 : Value} {H : Heap} {nx : Nat} {k : EP} (h : F61 a0 a1 H nx k) : Ans Tryz.prog 61 [a0, a1] H nx k :=
  spec_of_body mixed namesOK cfn61 ok61 (by simp) ((eq61 a0 a1 H nx k).symm ▸ h)

/-! 43: ordinal/dichotomy.contained -/
def d43 : D :=
  (.seq
    (.ops [
        (none, [⟨none, some 3, .a (.box (.s 0))⟩,
        ⟨none, some 6, .p (.mv (.c (.bool false)))⟩])] (.one .nil))
    (.seq
      (.ops [
          (none, [⟨none, some 14, .r (.ld (.s 3) (some 2))⟩,
          ⟨none, some 15, .p (.mv (.s 1))⟩,
          ⟨none, some 16, .p (.mv (.s 2))⟩,
          ⟨none, some 17, .e (.call (.c (.func (.func 62) ⟨[]⟩ ⟨[]⟩)) [.s 14, .s 15, .s 16])⟩,
          ⟨none, some 13, .p (.mv (.s 17))⟩,
          ⟨none, some 18, .p (.ext (.s 13) 0)⟩,
          ⟨none, some 19, .p (.ext (.s 13) 1)⟩,
          ⟨none, some 7, .p (.mv (.s 18))⟩,
          ⟨none, some 8, .p (.mv (.s 19))⟩])] (.one .nil))
      (.seq
        (.seq
          (.ops [
              (none, [⟨none, some 20, .p (.mv (.s 8))⟩,
              ⟨none, some 21, .p (.bin .neq (.s 20) (.c (.int .i64 0)))⟩])] (.one .nil))
          (.cond (.s 21)
            (.seq
              (.ops [
                  (none, [⟨none, some 6, .p (.mv (.c (.bool false)))⟩])] (.one .nil))
              .ret)
            .skip))
        (.seq
          (.seq
            (.ops [
                (none, [⟨none, some 22, .p (.mv (.s 7))⟩,
                ⟨none, some 23, .r (.len (.s 22) 0)⟩,
                ⟨none, some 24, .p (.mv (.c (.int .i64 0)))⟩])] (.one .nil))
            (.block 0
              (.loop [24] [6, 10, 11, 12, 25, 26, 27, 28, 29, 30, 31, 32, 33, 34, 35, 36, 37]
                (.seq
                  (.ops [
                      (none, [⟨none, some 25, .p (.bin .lss (.s 24) (.s 23))⟩])] (.one .nil))
                  (.seq
                    (.cond (.s 25)
                      .skip
                      (.exit 0))
                    (.seq
                      (.block 1
                        (.seq
                          (.ops [
                              (none, [⟨none, some 26, .p (.idx (.s 22) (.s 24) none 3)⟩,
                              ⟨none, some 27, .r (.ld (.s 26) (some 3))⟩,
                              ⟨none, some 10, .a (.alloc [.int .i64 0, .int .u32 0, .int .i64 0])⟩,
                              ⟨none, none, .e (.st (.s 10) (.s 27) 3)⟩])] (.one .nil))
                          (.seq
                            (.draw [0, 0, 2, 7, 15, 31, 31, 63, 255] [
                                (none, [⟨none, some 29, .r (.ld (.s 3) (some 2))⟩,
                                ⟨none, some 30, .r (.ld (.s 10) (some 3))⟩,
                                ⟨none, some 31, .e (.call (.c (.func (.func 63) ⟨[]⟩ ⟨[]⟩)) [.s 30])⟩,
                                ⟨none, some 32, .e (.call (.c (.func (.func 38) ⟨[]⟩ ⟨[]⟩)) [.s 29, .s 31])⟩,
                                ⟨none, some 28, .p (.mv (.s 32))⟩,
                                ⟨none, some 33, .p (.ext (.s 28) 0)⟩,
                                ⟨none, some 34, .p (.ext (.s 28) 1)⟩,
                                ⟨none, some 11, .p (.mv (.s 33))⟩,
                                ⟨none, some 12, .p (.mv (.s 34))⟩])] (.one .nil))
                            (.seq
                              (.ops [
                                  (none, [⟨none, some 35, .p (.mv (.s 12))⟩,
                                  ⟨none, some 36, .p (.un .not (.s 35))⟩])] (.one .nil))
                              (.cond (.s 36)
                                (.seq
                                  (.ops [
                                      (none, [⟨none, some 6, .p (.mv (.c (.bool false)))⟩])] (.one .nil))
                                  .ret)
                                .skip)))))
                      (.ops [
                          (none, [⟨none, some 37, .p (.bin .add (.s 24) (.c (.int .i64 1)))⟩,
                          ⟨none, some 24, .p (.mv (.s 37))⟩])] (.one .nil))))))))
          (.seq
            (.ops [
                (none, [⟨none, some 6, .p (.mv (.c (.bool true)))⟩])] (.one .nil))
            .ret)))))
theorem cfn43 : cfn Tryz.prog 43 = some ⟨38, 6, d43.erase, [(.s 6, none)]⟩ := by kernel_rfl
theorem ok43 : d43.ok 38 6 = true := by kernel_rfl
noncomputable def F43 (a0 a1 a2 : Value) (H : Heap) (nx : Nat) (k : EP) : Prop :=
  dBox a0 fun tc_1 => wNew (.cells tc_1 0) .ptr H nx fun t3_2 H1 nx1 =>
  wLd t3_2 (some 2) H1 fun t14_3 =>
  wCall Tryz.prog 62 [t14_3, a1, a2] H1 nx1 fun t17_4 H2 nx2 =>
  wExt t17_4 0 fun t18_5 =>
  wExt t17_4 1 fun t19_6 =>
  wBin .neq t19_6 (.int .i64 0) fun t21_7 =>
  wIf t21_7 (
    forceV (.bool false) fun tv_8 => k tv_8 H2 nx2) (
    wLen t18_5 0 H2 fun t23_9 =>
    wLoop (fun tih_10 tL_11 H3 nx3 =>
      wBin .lss (tL_11.getD 0 undef) t23_9 fun t25_12 =>
      wIf t25_12 (
        wIdx t18_5 (tL_11.getD 0 undef) none 3 fun t26_13 =>
        wLd t26_13 (some 3) H3 fun t27_14 =>
        wNew (.cells [.int .i64 0, .int .u32 0, .int .i64 0] 0) .ptr H3 nx3 fun t10_15 H4 nx4 =>
        wSt t10_15 t27_14 3 H4 fun H5 =>
        forceN (nx4 + 9) fun nx6 =>
        wLd t3_2 (some 2) H5 fun t29_16 =>
        wLd t10_15 (some 3) H5 fun t30_17 =>
        wCall Tryz.prog 63 [t30_17] H5 nx6 fun t31_18 H7 nx7 =>
        wCall Tryz.prog 38 [t29_16, t31_18] H7 nx7 fun t32_19 H8 nx8 =>
        wExt t32_19 0 fun t33_20 =>
        wExt t32_19 1 fun t34_21 =>
        (((((True) ∧ ((True) ∧ ((wLd t10_15 (some 3) H5 fun tq_24 => tq_24 = t30_17) ∧ True))) ∧ (((True) ∧ ((wLd t3_2 (some 2) H7 fun tq_22 => tq_22 = t29_16) ∧ ((wLd t3_2 (some 2) H5 fun tq_23 => tq_23 = t29_16) ∧ True))) ∧ True))) ∧ (
          wUn .not t34_21 fun t36_25 =>
          wIf t36_25 (
            forceV (.bool false) fun tv_26 => k tv_26 H8 nx8) (
            wBin .add (tL_11.getD 0 undef) (.int .i64 1) fun t37_27 =>
            tih_10 [t37_27] H8 nx8))) ∨ False) (
        forceV (.bool true) fun tv_28 => k tv_28 H3 nx3)) [(.int .i64 0)] H2 nx2)
theorem eq43 (a0 a1 a2 : Value) (H : Heap) (nx : Nat) (k : EP) : wBody Tryz.prog 38 6 d43 [(.s 6, none)] [a0, a1, a2] H nx k = F43 a0 a1 a2 H nx k := by kernel_rfl
theorem spec43 {a0 a1 a2 : Value} {H : Heap} {nx : Nat} {k : EP} (h : F43 a0 a1 a2 H nx k) : Ans Tryz.prog 43 [a0, a1, a2] H nx k :=
  spec_of_body mixed namesOK cfn43 ok43 (by simp) ((eq43 a0 a1 a2 H nx k).symm ▸ h)

/-! 7: ordinal/ordinallaw33.Few -/
def d7 : D :=
  (.seq
    (.ops [
        (none, [⟨none, some 2, .a (.box (.s 0))⟩,
        ⟨none, some 4, .p (.mv (.c (.bool false)))⟩])] (.one .nil))
    (.seq
      (.ops [
          (none, [⟨none, some 5, .p (.fld (.s 2) 1)⟩,
          ⟨none, some 6, .r (.ld (.s 5) none)⟩,
          ⟨none, some 7, .r (.len (.s 6) 0)⟩,
          ⟨none, some 8, .p (.bin .leq (.s 7) (.c (.int .i64 8)))⟩,
          ⟨none, some 9, .p (.mv (.s 8))⟩]),
          (some (9, true), [⟨none, some 10, .p (.fld (.s 2) 0)⟩,
          ⟨none, some 11, .r (.ld (.s 10) none)⟩,
          ⟨none, some 12, .p (.bin .leq (.s 11) (.c (.int .i64 6)))⟩,
          ⟨none, some 13, .p (.mv (.s 12))⟩]),
          (some (13, false), [⟨none, some 14, .p (.fld (.s 2) 0)⟩,
          ⟨none, some 15, .r (.ld (.s 14) none)⟩,
          ⟨none, some 16, .p (.bin .gtr (.s 15) (.c (.int .i64 32)))⟩]),
          (some (9, true), [⟨none, some 17, .p (.pick (.s 13) (.c (.bool true)) (.s 16))⟩]),
          (none, [⟨none, some 18, .p (.pick (.s 9) (.s 17) (.c (.bool false)))⟩,
          ⟨none, some 19, .p (.mv (.s 18))⟩]),
          (some (19, true), [⟨none, some 20, .p (.fld (.s 2) 0)⟩,
          ⟨none, some 21, .r (.ld (.s 20) none)⟩,
          ⟨none, some 22, .p (.mv (.s 1))⟩,
          ⟨none, some 23, .p (.bin .sub (.s 21) (.s 22))⟩,
          ⟨none, some 24, .p (.bin .leq (.s 23) (.c (.int .i64 4)))⟩,
          ⟨none, some 25, .p (.mv (.s 24))⟩]),
          (some (25, false), [⟨none, some 26, .p (.mv (.s 1))⟩,
          ⟨none, some 27, .p (.bin .lss (.s 26) (.c (.int .i64 0)))⟩]),
          (some (19, true), [⟨none, some 28, .p (.pick (.s 25) (.c (.bool true)) (.s 27))⟩]),
          (none, [⟨none, some 29, .p (.pick (.s 19) (.s 28) (.c (.bool false)))⟩,
          ⟨none, some 4, .p (.mv (.s 29))⟩])] (.one (.tst (.tst (.one (.one (.tst (.tst (.one (.one .nil)) (.one (.one .nil))) (.one (.one (.one .nil)))))) (.one (.one (.one (.tst (.one (.one .nil)) (.one (.one .nil))))))) (.one (.one (.one (.one (.one (.one (.one .nil))))))))))
      .ret))
theorem cfn7 : cfn Tryz.prog 7 = some ⟨30, 5, d7.erase, [(.s 4, none)]⟩ := by kernel_rfl
theorem ok7 : d7.ok 30 5 = true := by kernel_rfl
noncomputable def F7 (a0 a1 : Value) (H : Heap) (nx : Nat) (k : EP) : Prop :=
  dBox a0 fun tc_1 => wNew (.cells tc_1 0) .ptr H nx fun t2_2 H1 nx1 =>
  wFld t2_2 1 fun t5_3 =>
  wLd t5_3 none H1 fun t6_4 =>
  wLen t6_4 0 H1 fun t7_5 =>
  wBin .leq t7_5 (.int .i64 8) fun t8_6 =>
  wGuard true t8_6 (
    wFld t2_2 0 fun t10_7 =>
    wLd t10_7 none H1 fun t11_8 =>
    wBin .leq t11_8 (.int .i64 6) fun t12_9 =>
    wGuard false t12_9 (
      wFld t2_2 0 fun t14_10 =>
      wLd t14_10 none H1 fun t15_11 =>
      wBin .gtr t15_11 (.int .i64 32) fun t16_12 =>
        wGuard true t16_12 (
          wFld t2_2 0 fun t20_13 =>
          wLd t20_13 none H1 fun t21_14 =>
          wBin .sub t21_14 a1 fun t23_15 =>
          wBin .leq t23_15 (.int .i64 4) fun t24_16 =>
          wGuard false t24_16 (
            wBin .lss a1 (.int .i64 0) fun t27_17 =>
              forceV t27_17 fun tv_18 => k tv_18 H1 nx1) (
              forceV (.bool true) fun tv_19 => k tv_19 H1 nx1)) (
              forceV (.bool false) fun tv_20 => k tv_20 H1 nx1)) (
          wFld t2_2 0 fun t20_21 =>
          wLd t20_21 none H1 fun t21_22 =>
          wBin .sub t21_22 a1 fun t23_23 =>
          wBin .leq t23_23 (.int .i64 4) fun t24_24 =>
          wGuard false t24_24 (
            wBin .lss a1 (.int .i64 0) fun t27_25 =>
              forceV t27_25 fun tv_26 => k tv_26 H1 nx1) (
              forceV (.bool true) fun tv_27 => k tv_27 H1 nx1))) (
              forceV (.bool false) fun tv_28 => k tv_28 H1 nx1)
theorem eq7 (a0 a1 : Value) (H : Heap) (nx : Nat) (k : EP) : wBody Tryz.prog 30 5 d7 [(.s 4, none)] [a0, a1] H nx k = F7 a0 a1 H nx k := by kernel_rfl
theorem spec7 {a0 a1 : Value} {H : Heap} {nx : Nat} {k : EP} (h : F7 a0 a1 H nx k) : Ans Tryz.prog 7 [a0, a1] H nx k :=
  spec_of_body mixed namesOK cfn7 ok7 (by simp) ((eq7 a0 a1 H nx k).symm ▸ h)

end Go.Proofs.YtdecggbglnbhlaaGreatDoor
