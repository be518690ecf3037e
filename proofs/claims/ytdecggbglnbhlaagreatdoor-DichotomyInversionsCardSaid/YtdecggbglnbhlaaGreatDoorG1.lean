/-
  MADE BY PROGRAM (wip/gen/gen.py): functions 32 13 14 4 as marked code, and their claims written out.
-/
import Derived.Test.YtdecggbglnbhlaaGreatDoorPre
import Derived.KernelRfl
set_option linter.unusedSimpArgs false
set_option linter.unusedVariables false
set_option linter.unusedSectionVars false
namespace Go.Proofs.YtdecggbglnbhlaaGreatDoor
open Go.Clo
set_option maxRecDepth 100000
/-! 32: slices.Clone[[]int,int] -/
def d32 : D :=
  (.seq
    (.ops [
        (none, [⟨none, some 2, .p (.mv (.c (.slice none 0 0)))⟩])] (.one .nil))
    (.seq
      (.seq
        (.ops [
            (none, [⟨none, some 3, .p (.mv (.s 0))⟩,
            ⟨none, some 4, .p (.vf (.eqn false (.slice 3)) [.s 3, .c (.slice none 0 0)])⟩])] (.one .nil))
        (.cond (.s 4)
          (.seq
            (.ops [
                (none, [⟨none, some 2, .p (.mv (.c (.slice none 0 0)))⟩])] (.one .nil))
            .ret)
          .skip))
      (.seq
        (.ops [
            (none, [⟨none, some 5, .a (.bsl 0 1 [.int .i64 0] [])⟩,
            ⟨none, some 6, .p (.mv (.s 0))⟩,
            ⟨none, some 7, .e (.app (.s 5) (.s 6) 1 8)⟩,
            ⟨none, some 2, .p (.mv (.s 7))⟩])] (.one .nil))
        .ret)))
theorem cfn32 : cfn Tryz.prog 32 = some ⟨8, 4, d32.erase, [(.s 2, none)]⟩ := by kernel_rfl
theorem ok32 : d32.ok 8 4 = true := by kernel_rfl
noncomputable def F32 (a0 : Value) (H : Heap) (nx : Nat) (k : EP) : Prop :=
  wVf (.eqn false (.slice 3)) [a0, (.slice none 0 0)] fun t4_1 =>
  wIf t4_1 (
    forceV (.slice none 0 0) fun tv_2 => k tv_2 H nx) (
    dBsl 0 1 [.int .i64 0] [] fun tc_3 => wNew (.cells tc_3 0) (.slice 0 0) H nx fun t5_4 H1 nx1 =>
    wApp t5_4 a0 1 8 H1 nx1 fun t7_5 H2 nx2 =>
    forceV t7_5 fun tv_6 => k tv_6 H2 nx2)
theorem eq32 (a0 : Value) (H : Heap) (nx : Nat) (k : EP) : wBody Tryz.prog 8 4 d32 [(.s 2, none)] [a0] H nx k = F32 a0 H nx k := by kernel_rfl
theorem spec32 {a0 : Value} {H : Heap} {nx : Nat} {k : EP} (h : F32 a0 H nx k) : Ans Tryz.prog 32 [a0] H nx k :=
  spec_of_body mixed namesOK cfn32 ok32 (by simp) ((eq32 a0 H nx k).symm ▸ h)

/-! 13: ordinal/ordinalref33.Inversions -/
def d13 : D :=
  (.seq
    (.ops [
        (none, [⟨none, some 2, .p (.mv (.c (.int .i64 0)))⟩])] (.one .nil))
    (.seq
      (.ops [
          (none, [⟨none, some 3, .p (.mv (.c (.int .i64 0)))⟩])] (.one .nil))
      (.seq
        (.seq
          (.ops [
              (none, [⟨none, some 4, .p (.mv (.c (.int .i64 0)))⟩])] (.one .nil))
          (.block 0
            (.loop [3, 4] [5, 6, 7, 8, 9, 10, 11, 12, 13, 14, 15, 16, 17, 18, 19, 20, 21, 22, 23, 24, 25, 26, 27, 28, 29, 30]
              (.seq
                (.seq
                  (.ops [
                      (none, [⟨none, some 6, .p (.mv (.s 4))⟩,
                      ⟨none, some 7, .p (.mv (.s 0))⟩,
                      ⟨none, some 8, .r (.len (.s 7) 0)⟩,
                      ⟨none, some 9, .p (.bin .lss (.s 6) (.s 8))⟩])] (.one .nil))
                  (.cond (.s 9)
                    .skip
                    (.exit 0)))
                (.seq
                  (.block 1
                    (.seq
                      (.ops [
                          (none, [⟨none, some 12, .p (.mv (.s 4))⟩,
                          ⟨none, some 13, .p (.bin .add (.s 12) (.c (.int .i64 1)))⟩,
                          ⟨none, some 5, .p (.mv (.s 13))⟩])] (.one .nil))
                      (.block 2
                        (.loop [3, 5] [14, 15, 16, 17, 18, 19, 20, 21, 22, 23, 24, 25, 26, 27, 28, 29, 30]
                          (.seq
                            (.seq
                              (.ops [
                                  (none, [⟨none, some 14, .p (.mv (.s 5))⟩,
                                  ⟨none, some 15, .p (.mv (.s 0))⟩,
                                  ⟨none, some 16, .r (.len (.s 15) 0)⟩,
                                  ⟨none, some 17, .p (.bin .lss (.s 14) (.s 16))⟩])] (.one .nil))
                              (.cond (.s 17)
                                .skip
                                (.exit 2)))
                            (.join [3] [20, 21, 22, 23, 24, 25, 26, 27, 28, 29, 30]
                              (.block 3
                                (.seq
                                  (.draw [0, 0, 3, 7, 0, 0, 48, 112, 255] [
                                      (none, [⟨none, some 20, .p (.mv (.s 0))⟩,
                                      ⟨none, some 21, .p (.mv (.s 4))⟩,
                                      ⟨none, some 22, .p (.idx (.s 20) (.s 21) none 1)⟩,
                                      ⟨none, some 23, .r (.ld (.s 22) none)⟩,
                                      ⟨none, some 24, .p (.mv (.s 0))⟩,
                                      ⟨none, some 25, .p (.mv (.s 5))⟩,
                                      ⟨none, some 26, .p (.idx (.s 24) (.s 25) none 1)⟩,
                                      ⟨none, some 27, .r (.ld (.s 26) none)⟩,
                                      ⟨none, some 28, .p (.bin .gtr (.s 23) (.s 27))⟩])] (.one .nil))
                                  (.cond (.s 28)
                                    (.ops [
                                        (none, [⟨none, some 29, .p (.mv (.s 3))⟩,
                                        ⟨none, some 30, .p (.bin .add (.s 29) (.c (.int .i64 1)))⟩,
                                        ⟨none, some 3, .p (.mv (.s 30))⟩])] (.one .nil))
                                    .skip)))
                              (.ops [
                                  (none, [⟨none, some 18, .p (.mv (.s 5))⟩,
                                  ⟨none, some 19, .p (.bin .add (.s 18) (.c (.int .i64 1)))⟩,
                                  ⟨none, some 5, .p (.mv (.s 19))⟩])] (.one .nil))))))))
                  (.ops [
                      (none, [⟨none, some 10, .p (.mv (.s 4))⟩,
                      ⟨none, some 11, .p (.bin .add (.s 10) (.c (.int .i64 1)))⟩,
                      ⟨none, some 4, .p (.mv (.s 11))⟩])] (.one .nil)))))))
        (.seq
          (.ops [
              (none, [⟨none, some 31, .p (.mv (.s 3))⟩,
              ⟨none, some 2, .p (.mv (.s 31))⟩])] (.one .nil))
          .ret))))
theorem cfn13 : cfn Tryz.prog 13 = some ⟨32, 6, d13.erase, [(.s 2, none)]⟩ := by kernel_rfl
theorem ok13 : d13.ok 32 6 = true := by kernel_rfl
noncomputable def F13 (a0 : Value) (H : Heap) (nx : Nat) (k : EP) : Prop :=
  wLoop (fun tih_1 tL_2 H1 nx1 =>
    wLen a0 0 H1 fun t8_3 =>
    wBin .lss (tL_2.getD 1 undef) t8_3 fun t9_4 =>
    wIf t9_4 (
      wBin .add (tL_2.getD 1 undef) (.int .i64 1) fun t13_5 =>
      wLoop (fun tih_6 tL_7 H2 nx2 =>
        wLen a0 0 H2 fun t16_8 =>
        wBin .lss (tL_7.getD 1 undef) t16_8 fun t17_9 =>
        wIf t17_9 (
          wJoin (fun tj_10 =>
            forceN (nx2 + 9) fun nx4 =>
            wIdx a0 (tL_2.getD 1 undef) none 1 fun t22_12 =>
            wLd t22_12 none H2 fun t23_13 =>
            wIdx a0 (tL_7.getD 1 undef) none 1 fun t26_14 =>
            wLd t26_14 none H2 fun t27_15 =>
            wBin .gtr t23_13 t27_15 fun t28_16 =>
            (((((wLd t26_14 none H2 fun tq_18 => tq_18 = t27_15) ∧ True) ∧ (((wLd t22_12 none H2 fun tq_17 => tq_17 = t23_13) ∧ True) ∧ True))) ∧ (
              wIf t28_16 (
                wBin .add (tL_7.getD 0 undef) (.int .i64 1) fun t30_19 =>
                tj_10 [t30_19] H2 nx4) (
                tj_10 [(tL_7.getD 0 undef)] H2 nx4))) ∨ False) (fun tL_11 H3 nx3 =>
            wBin .add (tL_7.getD 1 undef) (.int .i64 1) fun t19_20 =>
            tih_6 [(tL_11.getD 0 undef), t19_20] H3 nx3)) (
          wBin .add (tL_2.getD 1 undef) (.int .i64 1) fun t11_21 =>
          tih_1 [(tL_7.getD 0 undef), t11_21] H2 nx2)) [(tL_2.getD 0 undef), t13_5] H1 nx1) (
      forceV (tL_2.getD 0 undef) fun tv_22 => k tv_22 H1 nx1)) [(.int .i64 0), (.int .i64 0)] H nx
theorem eq13 (a0 : Value) (H : Heap) (nx : Nat) (k : EP) : wBody Tryz.prog 32 6 d13 [(.s 2, none)] [a0] H nx k = F13 a0 H nx k := by kernel_rfl
theorem spec13 {a0 : Value} {H : Heap} {nx : Nat} {k : EP} (h : F13 a0 H nx k) : Ans Tryz.prog 13 [a0] H nx k :=
  spec_of_body mixed namesOK cfn13 ok13 (by simp) ((eq13 a0 H nx k).symm ▸ h)

/-! 14: ordinal/dichotomy.Inversions -/
def d14 : D :=
  (.seq
    (.ops [
        (none, [⟨none, some 2, .p (.mv (.c (.int .i64 0)))⟩])] (.one .nil))
    (.seq
      (.draw [0, 1, 0, 4, 12, 3, 63] [
          (none, [⟨none, some 13, .p (.mv (.s 0))⟩,
          ⟨none, some 14, .e (.call (.c (.func (.func 32) ⟨[]⟩ ⟨[]⟩)) [.s 13])⟩,
          ⟨none, some 15, .p (.mv (.s 0))⟩,
          ⟨none, some 16, .r (.len (.s 15) 0)⟩,
          ⟨none, some 17, .a (.msl (.s 16) (.s 16) [.int .i64 0])⟩,
          ⟨none, some 3, .p (.mv (.s 14))⟩,
          ⟨none, some 4, .p (.mv (.s 17))⟩])] (.one .nil))
      (.seq
        (.ops [
            (none, [⟨none, some 5, .p (.mv (.c (.int .i64 0)))⟩])] (.one .nil))
        (.seq
          (.seq
            (.ops [
                (none, [⟨none, some 6, .p (.mv (.c (.int .i64 1)))⟩])] (.one .nil))
            (.block 0
              (.loop [3, 4, 5, 6] [7, 8, 9, 10, 11, 12, 18, 19, 20, 21, 22, 23, 24, 25, 26, 27, 28, 29, 30, 31, 32, 33, 34, 35, 36, 37, 38, 39, 40, 41, 42, 43, 44, 45, 46, 47, 48, 49, 50, 51, 52, 53, 54, 55, 56, 57, 58, 59, 60, 61, 62, 63, 64, 65, 66, 67, 68, 69, 70, 71, 72, 73, 74, 75, 76, 77, 78, 79, 80, 81, 82, 83, 84, 85, 86, 87, 88, 89, 90, 91, 92, 93, 94, 95, 96]
                (.seq
                  (.seq
                    (.ops [
                        (none, [⟨none, some 18, .p (.mv (.s 6))⟩,
                        ⟨none, some 19, .p (.mv (.s 0))⟩,
                        ⟨none, some 20, .r (.len (.s 19) 0)⟩,
                        ⟨none, some 21, .p (.bin .lss (.s 18) (.s 20))⟩])] (.one .nil))
                    (.cond (.s 21)
                      .skip
                      (.exit 0)))
                  (.seq
                    (.block 1
                      (.seq
                        (.seq
                          (.ops [
                              (none, [⟨none, some 7, .p (.mv (.c (.int .i64 0)))⟩])] (.one .nil))
                          (.block 2
                            (.loop [5, 7] [8, 9, 10, 11, 12, 24, 25, 26, 27, 28, 29, 30, 31, 32, 33, 34, 35, 36, 37, 38, 39, 40, 41, 42, 43, 44, 45, 46, 47, 48, 49, 50, 51, 52, 53, 54, 55, 56, 57, 58, 59, 60, 61, 62, 63, 64, 65, 66, 67, 68, 69, 70, 71, 72, 73, 74, 75, 76, 77, 78, 79, 80, 81, 82, 83, 84, 85, 86, 87, 88, 89, 90, 91, 92, 93, 94]
                              (.seq
                                (.seq
                                  (.ops [
                                      (none, [⟨none, some 24, .p (.mv (.s 7))⟩,
                                      ⟨none, some 25, .p (.mv (.s 0))⟩,
                                      ⟨none, some 26, .r (.len (.s 25) 0)⟩,
                                      ⟨none, some 27, .p (.bin .lss (.s 24) (.s 26))⟩])] (.one .nil))
                                  (.cond (.s 27)
                                    .skip
                                    (.exit 2)))
                                (.seq
                                  (.block 3
                                    (.seq
                                      (.ops [
                                          (none, [⟨none, some 32, .p (.mv (.s 7))⟩,
                                          ⟨none, some 33, .p (.mv (.s 6))⟩,
                                          ⟨none, some 34, .p (.bin .add (.s 32) (.s 33))⟩,
                                          ⟨none, some 35, .p (.mv (.s 0))⟩,
                                          ⟨none, some 36, .r (.len (.s 35) 0)⟩,
                                          ⟨none, some 37, .p (.vf (.mm false) [.s 34, .s 36])⟩,
                                          ⟨none, some 38, .p (.mv (.s 7))⟩,
                                          ⟨none, some 39, .p (.mv (.s 6))⟩,
                                          ⟨none, some 40, .p (.bin .mul (.c (.int .i64 2)) (.s 39))⟩,
                                          ⟨none, some 41, .p (.bin .add (.s 38) (.s 40))⟩,
                                          ⟨none, some 42, .p (.mv (.s 0))⟩,
                                          ⟨none, some 43, .r (.len (.s 42) 0)⟩,
                                          ⟨none, some 44, .p (.vf (.mm false) [.s 41, .s 43])⟩,
                                          ⟨none, some 8, .p (.mv (.s 37))⟩,
                                          ⟨none, some 9, .p (.mv (.s 44))⟩])] (.one .nil))
                                      (.seq
                                        (.ops [
                                            (none, [⟨none, some 45, .p (.mv (.s 7))⟩,
                                            ⟨none, some 46, .p (.mv (.s 8))⟩,
                                            ⟨none, some 10, .p (.mv (.s 45))⟩,
                                            ⟨none, some 11, .p (.mv (.s 46))⟩])] (.one .nil))
                                        (.seq
                                          (.ops [
                                              (none, [⟨none, some 47, .p (.mv (.s 7))⟩,
                                              ⟨none, some 12, .p (.mv (.s 47))⟩])] (.one .nil))
                                          (.block 4
                                            (.loop [5, 10, 11, 12] [48, 49, 50, 51, 52, 53, 54, 55, 56, 57, 58, 59, 60, 61, 62, 63, 64, 65, 66, 67, 68, 69, 70, 71, 72, 73, 74, 75, 76, 77, 78, 79, 80, 81, 82, 83, 84, 85, 86, 87, 88, 89, 90, 91, 92, 93, 94]
                                              (.seq
                                                (.seq
                                                  (.ops [
                                                      (none, [⟨none, some 48, .p (.mv (.s 12))⟩,
                                                      ⟨none, some 49, .p (.mv (.s 9))⟩,
                                                      ⟨none, some 50, .p (.bin .lss (.s 48) (.s 49))⟩])] (.one .nil))
                                                  (.cond (.s 50)
                                                    .skip
                                                    (.exit 4)))
                                                (.join [5, 10, 11] [53, 54, 55, 56, 57, 58, 59, 60, 61, 62, 63, 64, 65, 66, 67, 68, 69, 70, 71, 72, 73, 74, 75, 76, 77, 78, 79, 80, 81, 82, 83, 84, 85, 86, 87, 88, 89, 90, 91, 92, 93, 94]
                                                  (.block 5
                                                    (.join [71] [53, 54, 55, 56, 57, 58, 59, 60, 61, 62, 63, 64, 65, 66, 67, 68, 69, 70]
                                                      (.draw [0, 0, 3, 7, 15, 15, 63, 127, 255, 255, 1023, 2047, 255, 255, 12543, 28927, 65535, 131071, 262143] [
                                                          (none, [⟨none, some 53, .p (.mv (.s 10))⟩,
                                                          ⟨none, some 54, .p (.mv (.s 8))⟩,
                                                          ⟨none, some 55, .p (.bin .lss (.s 53) (.s 54))⟩,
                                                          ⟨none, some 56, .p (.mv (.s 55))⟩]),
                                                          (some (56, true), [⟨none, some 57, .p (.mv (.s 11))⟩,
                                                          ⟨none, some 58, .p (.mv (.s 9))⟩,
                                                          ⟨none, some 59, .p (.bin .eql (.s 57) (.s 58))⟩,
                                                          ⟨none, some 60, .p (.mv (.s 59))⟩]),
                                                          (some (60, false), [⟨none, some 61, .p (.mv (.s 3))⟩,
                                                          ⟨none, some 62, .p (.mv (.s 10))⟩,
                                                          ⟨none, some 63, .p (.idx (.s 61) (.s 62) none 1)⟩,
                                                          ⟨none, some 64, .r (.ld (.s 63) none)⟩,
                                                          ⟨none, some 65, .p (.mv (.s 3))⟩,
                                                          ⟨none, some 66, .p (.mv (.s 11))⟩,
                                                          ⟨none, some 67, .p (.idx (.s 65) (.s 66) none 1)⟩,
                                                          ⟨none, some 68, .r (.ld (.s 67) none)⟩,
                                                          ⟨none, some 69, .p (.bin .leq (.s 64) (.s 68))⟩]),
                                                          (some (56, true), [⟨none, some 70, .p (.pick (.s 60) (.c (.bool true)) (.s 69))⟩]),
                                                          (none, [⟨none, some 71, .p (.pick (.s 56) (.s 70) (.c (.bool false)))⟩])] (.one (.tst (.tst (.one (.one .nil)) (.one (.one .nil))) (.one (.one (.one .nil))))))
                                                      (.cond (.s 71)
                                                        (.seq
                                                          (.ops [
                                                              (none, [⟨none, some 72, .p (.mv (.s 4))⟩,
                                                              ⟨none, some 73, .p (.mv (.s 12))⟩,
                                                              ⟨none, some 74, .p (.mv (.s 3))⟩,
                                                              ⟨none, some 75, .p (.mv (.s 10))⟩,
                                                              ⟨none, some 76, .p (.idx (.s 74) (.s 75) none 1)⟩,
                                                              ⟨none, some 77, .r (.ld (.s 76) none)⟩,
                                                              ⟨none, some 78, .p (.idx (.s 72) (.s 73) none 1)⟩,
                                                              ⟨none, none, .e (.st (.s 78) (.s 77) 1)⟩])] (.one .nil))
                                                          (.ops [
                                                              (none, [⟨none, some 79, .p (.mv (.s 10))⟩,
                                                              ⟨none, some 80, .p (.bin .add (.s 79) (.c (.int .i64 1)))⟩,
                                                              ⟨none, some 10, .p (.mv (.s 80))⟩])] (.one .nil)))
                                                        (.seq
                                                          (.ops [
                                                              (none, [⟨none, some 81, .p (.mv (.s 4))⟩,
                                                              ⟨none, some 82, .p (.mv (.s 12))⟩,
                                                              ⟨none, some 83, .p (.mv (.s 3))⟩,
                                                              ⟨none, some 84, .p (.mv (.s 11))⟩,
                                                              ⟨none, some 85, .p (.idx (.s 83) (.s 84) none 1)⟩,
                                                              ⟨none, some 86, .r (.ld (.s 85) none)⟩,
                                                              ⟨none, some 87, .p (.idx (.s 81) (.s 82) none 1)⟩,
                                                              ⟨none, none, .e (.st (.s 87) (.s 86) 1)⟩])] (.one .nil))
                                                          (.seq
                                                            (.ops [
                                                                (none, [⟨none, some 88, .p (.mv (.s 11))⟩,
                                                                ⟨none, some 89, .p (.bin .add (.s 88) (.c (.int .i64 1)))⟩,
                                                                ⟨none, some 11, .p (.mv (.s 89))⟩])] (.one .nil))
                                                            (.ops [
                                                                (none, [⟨none, some 90, .p (.mv (.s 5))⟩,
                                                                ⟨none, some 91, .p (.mv (.s 8))⟩,
                                                                ⟨none, some 92, .p (.mv (.s 10))⟩,
                                                                ⟨none, some 93, .p (.bin .sub (.s 91) (.s 92))⟩,
                                                                ⟨none, some 94, .p (.bin .add (.s 90) (.s 93))⟩,
                                                                ⟨none, some 5, .p (.mv (.s 94))⟩])] (.one .nil)))))))
                                                  (.ops [
                                                      (none, [⟨none, some 51, .p (.mv (.s 12))⟩,
                                                      ⟨none, some 52, .p (.bin .add (.s 51) (.c (.int .i64 1)))⟩,
                                                      ⟨none, some 12, .p (.mv (.s 52))⟩])] (.one .nil))))))))))
                                  (.ops [
                                      (none, [⟨none, some 28, .p (.mv (.s 7))⟩,
                                      ⟨none, some 29, .p (.mv (.s 6))⟩,
                                      ⟨none, some 30, .p (.bin .mul (.c (.int .i64 2)) (.s 29))⟩,
                                      ⟨none, some 31, .p (.bin .add (.s 28) (.s 30))⟩,
                                      ⟨none, some 7, .p (.mv (.s 31))⟩])] (.one .nil)))))))
                        (.ops [
                            (none, [⟨none, some 95, .p (.mv (.s 4))⟩,
                            ⟨none, some 96, .p (.mv (.s 3))⟩,
                            ⟨none, some 3, .p (.mv (.s 95))⟩,
                            ⟨none, some 4, .p (.mv (.s 96))⟩])] (.one .nil))))
                    (.ops [
                        (none, [⟨none, some 22, .p (.mv (.s 6))⟩,
                        ⟨none, some 23, .p (.bin .mul (.s 22) (.c (.int .i64 2)))⟩,
                        ⟨none, some 6, .p (.mv (.s 23))⟩])] (.one .nil)))))))
          (.seq
            (.ops [
                (none, [⟨none, some 97, .p (.mv (.s 5))⟩,
                ⟨none, some 2, .p (.mv (.s 97))⟩])] (.one .nil))
            .ret)))))
theorem cfn14 : cfn Tryz.prog 14 = some ⟨98, 7, d14.erase, [(.s 2, none)]⟩ := by kernel_rfl
theorem ok14 : d14.ok 98 7 = true := by kernel_rfl
noncomputable def F14 (a0 : Value) (H : Heap) (nx : Nat) (k : EP) : Prop :=
  forceN (nx + 7) fun nx1 =>
  wCall Tryz.prog 32 [a0] H nx1 fun t14_1 H2 nx2 =>
  wLen a0 0 H2 fun t16_2 =>
  dMsl t16_2 t16_2 [.int .i64 0] fun tc_4 tl_5 tp_6 => wNm nx 4 (.slice tl_5 tp_6) fun t17_3 =>
  (((((wLen a0 0 H2 fun tq_7 => tq_7 = t16_2) ∧ ((wLen a0 0 H fun tq_8 => tq_8 = t16_2) ∧ True)) ∧ True)) ∧ (
    hsK H2 (nx + 4) (some (.cells tc_4 0)) fun H3 => 
    wLoop (fun tih_9 tL_10 H4 nx4 =>
      wLen a0 0 H4 fun t20_11 =>
      wBin .lss (tL_10.getD 3 undef) t20_11 fun t21_12 =>
      wIf t21_12 (
        wLoop (fun tih_13 tL_14 H5 nx5 =>
          wLen a0 0 H5 fun t26_15 =>
          wBin .lss (tL_14.getD 1 undef) t26_15 fun t27_16 =>
          wIf t27_16 (
            wBin .add (tL_14.getD 1 undef) (tL_10.getD 3 undef) fun t34_17 =>
            wLen a0 0 H5 fun t36_18 =>
            wVf (.mm false) [t34_17, t36_18] fun t37_19 =>
            wBin .mul (.int .i64 2) (tL_10.getD 3 undef) fun t40_20 =>
            wBin .add (tL_14.getD 1 undef) t40_20 fun t41_21 =>
            wLen a0 0 H5 fun t43_22 =>
            wVf (.mm false) [t41_21, t43_22] fun t44_23 =>
            wLoop (fun tih_24 tL_25 H6 nx6 =>
              wBin .lss (tL_25.getD 3 undef) t44_23 fun t50_26 =>
              wIf t50_26 (
                wJoin (fun tj_27 =>
                  wJoin (fun tj_29 =>
                    forceN (nx6 + 19) fun nx9 =>
                    wBin .lss (tL_25.getD 1 undef) t37_19 fun t55_31 =>
                    wGuard true t55_31 (
                      wBin .eql (tL_25.getD 2 undef) t44_23 fun t59_32 =>
                      wGuard false t59_32 (
                        wIdx (tL_10.getD 0 undef) (tL_25.getD 1 undef) none 1 fun t63_33 =>
                        wLd t63_33 none H6 fun t64_34 =>
                        wIdx (tL_10.getD 0 undef) (tL_25.getD 2 undef) none 1 fun t67_35 =>
                        wLd t67_35 none H6 fun t68_36 =>
                        wBin .leq t64_34 t68_36 fun t69_37 =>
                          (((((wLd t67_35 none H6 fun tq_39 => tq_39 = t68_36) ∧ True) ∧ (((wLd t63_33 none H6 fun tq_38 => tq_38 = t64_34) ∧ True) ∧ True))) ∧ (
                            tj_29 [t69_37] H6 nx9)) ∨ False) (
                          ((True) ∧ (
                            tj_29 [(.bool true)] H6 nx9)) ∨ False)) (
                          ((True) ∧ (
                            tj_29 [(.bool false)] H6 nx9)) ∨ False)) (fun tL_30 H8 nx8 =>
                    wIf (tL_30.getD 0 undef) (
                      wIdx (tL_10.getD 0 undef) (tL_25.getD 1 undef) none 1 fun t76_40 =>
                      wLd t76_40 none H8 fun t77_41 =>
                      wIdx (tL_10.getD 1 undef) (tL_25.getD 3 undef) none 1 fun t78_42 =>
                      wSt t78_42 t77_41 1 H8 fun H10 =>
                      wBin .add (tL_25.getD 1 undef) (.int .i64 1) fun t80_43 =>
                      tj_27 [(tL_25.getD 0 undef), t80_43, (tL_25.getD 2 undef)] H10 nx8) (
                      wIdx (tL_10.getD 0 undef) (tL_25.getD 2 undef) none 1 fun t85_44 =>
                      wLd t85_44 none H8 fun t86_45 =>
                      wIdx (tL_10.getD 1 undef) (tL_25.getD 3 undef) none 1 fun t87_46 =>
                      wSt t87_46 t86_45 1 H8 fun H11 =>
                      wBin .add (tL_25.getD 2 undef) (.int .i64 1) fun t89_47 =>
                      wBin .sub t37_19 (tL_25.getD 1 undef) fun t93_48 =>
                      wBin .add (tL_25.getD 0 undef) t93_48 fun t94_49 =>
                      tj_27 [t94_49, (tL_25.getD 1 undef), t89_47] H11 nx8))) (fun tL_28 H7 nx7 =>
                  wBin .add (tL_25.getD 3 undef) (.int .i64 1) fun t52_50 =>
                  tih_24 [(tL_28.getD 0 undef), (tL_28.getD 1 undef), (tL_28.getD 2 undef), t52_50] H7 nx7)) (
                wBin .mul (.int .i64 2) (tL_10.getD 3 undef) fun t30_51 =>
                wBin .add (tL_14.getD 1 undef) t30_51 fun t31_52 =>
                tih_13 [(tL_25.getD 0 undef), t31_52] H6 nx6)) [(tL_14.getD 0 undef), (tL_14.getD 1 undef), t37_19, (tL_14.getD 1 undef)] H5 nx5) (
            wBin .mul (tL_10.getD 3 undef) (.int .i64 2) fun t23_53 =>
            tih_9 [(tL_10.getD 1 undef), (tL_10.getD 0 undef), (tL_14.getD 0 undef), t23_53] H5 nx5)) [(tL_10.getD 2 undef), (.int .i64 0)] H4 nx4) (
        forceV (tL_10.getD 2 undef) fun tv_54 => k tv_54 H4 nx4)) [t14_1, t17_3, (.int .i64 0), (.int .i64 1)] H3 nx2)) ∨ False
theorem eq14 (a0 : Value) (H : Heap) (nx : Nat) (k : EP) : wBody Tryz.prog 98 7 d14 [(.s 2, none)] [a0] H nx k = F14 a0 H nx k := by kernel_rfl
theorem spec14 {a0 : Value} {H : Heap} {nx : Nat} {k : EP} (h : F14 a0 H nx k) : Ans Tryz.prog 14 [a0] H nx k :=
  spec_of_body mixed namesOK cfn14 ok14 (by simp) ((eq14 a0 H nx k).symm ▸ h)

/-! 4: ordinal/ordinallaw33.DichotomyInversions -/
def d4 : D :=
  (.seq
    (.ops [
        (none, [⟨none, some 4, .p (.mv (.c (.bool false)))⟩])] (.one .nil))
    (.seq
      (.seq
        (.ops [
            (none, [⟨none, some 7, .e (.call (.c (.func (.func 6) ⟨[]⟩ ⟨[]⟩)) [])⟩,
            ⟨none, some 8, .p (.un .not (.s 7))⟩])] (.one .nil))
        (.cond (.s 8)
          (.seq
            (.ops [
                (none, [⟨none, some 4, .p (.mv (.c (.bool false)))⟩])] (.one .nil))
            .ret)
          .skip))
      (.seq
        (.seq
          (.ops [
              (none, [⟨none, some 9, .p (.mv (.s 0))⟩,
              ⟨none, some 10, .r (.len (.s 9) 0)⟩,
              ⟨none, some 11, .p (.bin .gtr (.s 10) (.c (.int .i64 40)))⟩])] (.one .nil))
          (.cond (.s 11)
            (.seq
              (.ops [
                  (none, [⟨none, some 4, .p (.mv (.c (.bool true)))⟩])] (.one .nil))
              .ret)
            .skip))
        (.seq
          (.seq
            (.ops [
                (none, [⟨none, some 12, .p (.mv (.s 0))⟩,
                ⟨none, some 13, .e (.call (.c (.func (.func 14) ⟨[]⟩ ⟨[]⟩)) [.s 12])⟩,
                ⟨none, some 14, .p (.mv (.s 0))⟩,
                ⟨none, some 15, .e (.call (.c (.func (.func 13) ⟨[]⟩ ⟨[]⟩)) [.s 14])⟩,
                ⟨none, some 16, .p (.bin .neq (.s 13) (.s 15))⟩])] (.one .nil))
            (.cond (.s 16)
              (.seq
                (.ops [
                    (none, [⟨none, some 4, .p (.mv (.c (.bool false)))⟩])] (.one .nil))
                .ret)
              .skip))
          (.seq
            (.seq
              (.ops [
                  (none, [⟨none, some 17, .p (.mv (.s 0))⟩,
                  ⟨none, some 18, .r (.len (.s 17) 0)⟩,
                  ⟨none, some 19, .p (.bin .lss (.s 18) (.c (.int .i64 2)))⟩])] (.one .nil))
              (.cond (.s 19)
                (.seq
                  (.ops [
                      (none, [⟨none, some 4, .p (.mv (.c (.bool true)))⟩])] (.one .nil))
                  .ret)
                .skip))
            (.seq
              (.ops [
                  (none, [⟨none, some 20, .p (.mv (.s 1))⟩,
                  ⟨none, some 21, .r (.convI .i64 (.s 20))⟩,
                  ⟨none, some 22, .p (.mv (.s 0))⟩,
                  ⟨none, some 23, .r (.len (.s 22) 0)⟩,
                  ⟨none, some 24, .p (.bin .sub (.s 23) (.c (.int .i64 1)))⟩,
                  ⟨none, some 25, .p (.bin .rem (.s 21) (.s 24))⟩,
                  ⟨none, some 5, .p (.mv (.s 25))⟩])] (.one .nil))
              (.seq
                (.seq
                  (.draw [0, 0, 3, 7, 0, 0, 32, 112, 240, 511] [
                      (none, [⟨none, some 26, .p (.mv (.s 0))⟩,
                      ⟨none, some 27, .p (.mv (.s 5))⟩,
                      ⟨none, some 28, .p (.idx (.s 26) (.s 27) none 1)⟩,
                      ⟨none, some 29, .r (.ld (.s 28) none)⟩,
                      ⟨none, some 30, .p (.mv (.s 0))⟩,
                      ⟨none, some 31, .p (.mv (.s 5))⟩,
                      ⟨none, some 32, .p (.bin .add (.s 31) (.c (.int .i64 1)))⟩,
                      ⟨none, some 33, .p (.idx (.s 30) (.s 32) none 1)⟩,
                      ⟨none, some 34, .r (.ld (.s 33) none)⟩,
                      ⟨none, some 35, .p (.bin .geq (.s 29) (.s 34))⟩])] (.one .nil))
                  (.cond (.s 35)
                    (.seq
                      (.ops [
                          (none, [⟨none, some 4, .p (.mv (.c (.bool true)))⟩])] (.one .nil))
                      .ret)
                    .skip))
                (.seq
                  (.ops [
                      (none, [⟨none, some 36, .a (.bsl 0 1 [.int .i64 0] [])⟩,
                      ⟨none, some 37, .p (.mv (.s 0))⟩,
                      ⟨none, some 38, .e (.app (.s 36) (.s 37) 1 8)⟩,
                      ⟨none, some 6, .p (.mv (.s 38))⟩])] (.one .nil))
                  (.seq
                    (.draw [0, 0, 0, 0, 8, 0, 0, 64, 224, 480, 0, 0, 3072, 7168, 16355, 32739, 65535, 131071] [
                        (none, [⟨none, some 39, .p (.mv (.s 6))⟩,
                        ⟨none, some 40, .p (.mv (.s 5))⟩,
                        ⟨none, some 41, .p (.mv (.s 6))⟩,
                        ⟨none, some 42, .p (.mv (.s 5))⟩,
                        ⟨none, some 43, .p (.bin .add (.s 42) (.c (.int .i64 1)))⟩,
                        ⟨none, some 44, .p (.mv (.s 6))⟩,
                        ⟨none, some 45, .p (.mv (.s 5))⟩,
                        ⟨none, some 46, .p (.bin .add (.s 45) (.c (.int .i64 1)))⟩,
                        ⟨none, some 47, .p (.idx (.s 44) (.s 46) none 1)⟩,
                        ⟨none, some 48, .r (.ld (.s 47) none)⟩,
                        ⟨none, some 49, .p (.mv (.s 6))⟩,
                        ⟨none, some 50, .p (.mv (.s 5))⟩,
                        ⟨none, some 51, .p (.idx (.s 49) (.s 50) none 1)⟩,
                        ⟨none, some 52, .r (.ld (.s 51) none)⟩,
                        ⟨none, some 53, .p (.idx (.s 39) (.s 40) none 1)⟩,
                        ⟨none, none, .e (.st (.s 53) (.s 48) 1)⟩,
                        ⟨none, some 54, .p (.idx (.s 41) (.s 43) none 1)⟩,
                        ⟨none, none, .e (.st (.s 54) (.s 52) 1)⟩])] (.one .nil))
                    (.seq
                      (.ops [
                          (none, [⟨none, some 55, .p (.mv (.s 6))⟩,
                          ⟨none, some 56, .e (.call (.c (.func (.func 14) ⟨[]⟩ ⟨[]⟩)) [.s 55])⟩,
                          ⟨none, some 57, .p (.mv (.s 0))⟩,
                          ⟨none, some 58, .e (.call (.c (.func (.func 14) ⟨[]⟩ ⟨[]⟩)) [.s 57])⟩,
                          ⟨none, some 59, .p (.bin .add (.s 58) (.c (.int .i64 1)))⟩,
                          ⟨none, some 60, .p (.bin .eql (.s 56) (.s 59))⟩,
                          ⟨none, some 4, .p (.mv (.s 60))⟩])] (.one .nil))
                      .ret))))))))))
theorem cfn4 : cfn Tryz.prog 4 = some ⟨61, 6, d4.erase, [(.s 4, none)]⟩ := by kernel_rfl
theorem ok4 : d4.ok 61 6 = true := by kernel_rfl
noncomputable def F4 (a0 a1 : Value) (H : Heap) (nx : Nat) (k : EP) : Prop :=
  wCall Tryz.prog 6 [] H nx fun t7_1 H1 nx1 =>
  wUn .not t7_1 fun t8_2 =>
  wIf t8_2 (
    forceV (.bool false) fun tv_3 => k tv_3 H1 nx1) (
    wLen a0 0 H1 fun t10_4 =>
    wBin .gtr t10_4 (.int .i64 40) fun t11_5 =>
    wIf t11_5 (
      forceV (.bool true) fun tv_6 => k tv_6 H1 nx1) (
      wCall Tryz.prog 14 [a0] H1 nx1 fun t13_7 H2 nx2 =>
      wCall Tryz.prog 13 [a0] H2 nx2 fun t15_8 H3 nx3 =>
      wBin .neq t13_7 t15_8 fun t16_9 =>
      wIf t16_9 (
        forceV (.bool false) fun tv_10 => k tv_10 H3 nx3) (
        wLen a0 0 H3 fun t18_11 =>
        wBin .lss t18_11 (.int .i64 2) fun t19_12 =>
        wIf t19_12 (
          forceV (.bool true) fun tv_13 => k tv_13 H3 nx3) (
          wConv .i64 a1 fun t21_14 =>
          wLen a0 0 H3 fun t23_15 =>
          wBin .sub t23_15 (.int .i64 1) fun t24_16 =>
          wBin .rem t21_14 t24_16 fun t25_17 =>
          forceN (nx3 + 10) fun nx4 =>
          wIdx a0 t25_17 none 1 fun t28_18 =>
          wLd t28_18 none H3 fun t29_19 =>
          wBin .add t25_17 (.int .i64 1) fun t32_20 =>
          wIdx a0 t32_20 none 1 fun t33_21 =>
          wLd t33_21 none H3 fun t34_22 =>
          wBin .geq t29_19 t34_22 fun t35_23 =>
          (((((wLd t33_21 none H3 fun tq_25 => tq_25 = t34_22) ∧ True) ∧ (((wLd t28_18 none H3 fun tq_24 => tq_24 = t29_19) ∧ True) ∧ True))) ∧ (
            wIf t35_23 (
              forceV (.bool true) fun tv_26 => k tv_26 H3 nx4) (
              dBsl 0 1 [.int .i64 0] [] fun tc_27 => wNew (.cells tc_27 0) (.slice 0 0) H3 nx4 fun t36_28 H5 nx5 =>
              wApp t36_28 a0 1 8 H5 nx5 fun t38_29 H6 nx6 =>
              forceN (nx6 + 18) fun nx7 =>
              wBin .add t25_17 (.int .i64 1) fun t43_30 =>
              wBin .add t25_17 (.int .i64 1) fun t46_31 =>
              wIdx t38_29 t46_31 none 1 fun t47_32 =>
              wLd t47_32 none H6 fun t48_33 =>
              wIdx t38_29 t25_17 none 1 fun t51_34 =>
              wLd t51_34 none H6 fun t52_35 =>
              wIdx t38_29 t25_17 none 1 fun t53_36 =>
              wSt t53_36 t48_33 1 H6 fun H8 =>
              wIdx t38_29 t43_30 none 1 fun t54_37 =>
              wSt t54_37 t52_35 1 H8 fun H9 =>
              (((((True) ∧ ((True) ∧ ((wLd t51_34 none H6 fun tq_39 => tq_39 = t52_35) ∧ True))) ∧ (((True) ∧ ((True) ∧ ((wLd t47_32 none H6 fun tq_38 => tq_38 = t48_33) ∧ True))) ∧ True))) ∧ (
                wCall Tryz.prog 14 [t38_29] H9 nx7 fun t56_40 H10 nx10 =>
                wCall Tryz.prog 14 [a0] H10 nx10 fun t58_41 H11 nx11 =>
                wBin .add t58_41 (.int .i64 1) fun t59_42 =>
                wBin .eql t56_40 t59_42 fun t60_43 =>
                forceV t60_43 fun tv_44 => k tv_44 H11 nx11)) ∨ False))) ∨ False))))
theorem eq4 (a0 a1 : Value) (H : Heap) (nx : Nat) (k : EP) : wBody Tryz.prog 61 6 d4 [(.s 4, none)] [a0, a1] H nx k = F4 a0 a1 H nx k := by kernel_rfl
theorem spec4 {a0 a1 : Value} {H : Heap} {nx : Nat} {k : EP} (h : F4 a0 a1 H nx k) : Ans Tryz.prog 4 [a0, a1] H nx k :=
  spec_of_body mixed namesOK cfn4 ok4 (by simp) ((eq4 a0 a1 H nx k).symm ▸ h)

end Go.Proofs.YtdecggbglnbhlaaGreatDoor
