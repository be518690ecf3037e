/-
  MADE BY PROGRAM (wip/gen/gen.py): functions 17 19 36 18 5 as marked code, and their claims written out.
-/
import Derived.Test.YtaieijjfabbfeaaS8
import Derived.KernelRfl
set_option linter.unusedSimpArgs false
set_option linter.unusedVariables false
set_option linter.unusedSectionVars false
namespace Go.Proofs.Ytaieijjfabbfeaa
open Go.Clo
set_option maxRecDepth 100000
/-! 17: ordinal/ordinallaw26.Few -/
def d17 : D :=
  (.seq
    (.ops [
        (none, [⟨none, some 1, .a (.box (.s 0))⟩,
        ⟨none, some 2, .p (.mv (.c (.bool false)))⟩])] (.one .nil))
    (.seq
      (.ops [
          (none, [⟨none, some 3, .p (.fld (.s 1) 0)⟩,
          ⟨none, some 4, .r (.ld (.s 3) none)⟩,
          ⟨none, some 5, .p (.bin .geq (.s 4) (.c (.int .i64 0)))⟩,
          ⟨none, some 6, .p (.mv (.s 5))⟩]),
          (some (6, true), [⟨none, some 7, .p (.fld (.s 1) 0)⟩,
          ⟨none, some 8, .r (.ld (.s 7) none)⟩,
          ⟨none, some 9, .p (.bin .leq (.s 8) (.c (.int .i64 6)))⟩]),
          (none, [⟨none, some 10, .p (.pick (.s 6) (.s 9) (.c (.bool false)))⟩,
          ⟨none, some 11, .p (.mv (.s 10))⟩]),
          (some (11, true), [⟨none, some 12, .p (.fld (.s 1) 1)⟩,
          ⟨none, some 13, .r (.ld (.s 12) none)⟩,
          ⟨none, some 14, .r (.len (.s 13) 0)⟩,
          ⟨none, some 15, .p (.bin .leq (.s 14) (.c (.int .i64 8)))⟩]),
          (none, [⟨none, some 16, .p (.pick (.s 11) (.s 15) (.c (.bool false)))⟩,
          ⟨none, some 17, .p (.mv (.s 16))⟩]),
          (some (17, true), [⟨none, some 18, .r (.ld (.s 1) (some 2))⟩,
          ⟨none, some 19, .e (.call (.c (.func (.func 10) ⟨[]⟩ ⟨[]⟩)) [.s 18])⟩,
          ⟨none, some 20, .e (.call (.c (.func (.func 9) ⟨[]⟩ ⟨[]⟩)) [.s 19])⟩,
          ⟨none, some 21, .p (.bin .eql (.s 20) (.c (.int .i64 0)))⟩]),
          (none, [⟨none, some 22, .p (.pick (.s 17) (.s 21) (.c (.bool false)))⟩,
          ⟨none, some 2, .p (.mv (.s 22))⟩])] (.one (.tst (.one (.tst (.one (.tst (.one .nil) (.one .nil))) (.one (.one (.one .nil))))) (.one (.one (.one (.one (.one .nil))))))))
      .ret))
theorem cfn17 : cfn Try.prog 17 = some ⟨23, 5, d17.erase, [(.s 2, none)]⟩ := by kernel_rfl
theorem ok17 : d17.ok 23 5 = true := by kernel_rfl
noncomputable def F17 (a0 : Value) (H : Heap) (nx : Nat) (k : EP) : Prop :=
  dBox a0 fun tc_1 => wNew (.cells tc_1 0) .ptr H nx fun t1_2 H1 nx1 =>
  wFld t1_2 0 fun t3_3 =>
  wLd t3_3 none H1 fun t4_4 =>
  wBin .geq t4_4 (.int .i64 0) fun t5_5 =>
  wGuard true t5_5 (
    wFld t1_2 0 fun t7_6 =>
    wLd t7_6 none H1 fun t8_7 =>
    wBin .leq t8_7 (.int .i64 6) fun t9_8 =>
    wGuard true t9_8 (
      wFld t1_2 1 fun t12_9 =>
      wLd t12_9 none H1 fun t13_10 =>
      wLen t13_10 0 H1 fun t14_11 =>
      wBin .leq t14_11 (.int .i64 8) fun t15_12 =>
      wGuard true t15_12 (
        wLd t1_2 (some 2) H1 fun t18_13 =>
        wCall Try.prog 10 [t18_13] H1 nx1 fun t19_14 H2 nx2 =>
        wCall Try.prog 9 [t19_14] H2 nx2 fun t20_15 H3 nx3 =>
        wBin .eql t20_15 (.int .i64 0) fun t21_16 =>
        forceV t21_16 fun tv_17 => k tv_17 H3 nx3) (
        forceV (.bool false) fun tv_18 => k tv_18 H1 nx1)) (
        forceV (.bool false) fun tv_19 => k tv_19 H1 nx1)) (
        forceV (.bool false) fun tv_20 => k tv_20 H1 nx1)
theorem eq17 (a0 : Value) (H : Heap) (nx : Nat) (k : EP) : wBody Try.prog 23 5 d17 [(.s 2, none)] [a0] H nx k = F17 a0 H nx k := by kernel_rfl
theorem spec17 {a0 : Value} {H : Heap} {nx : Nat} {k : EP} (h : F17 a0 H nx k) : Ans Try.prog 17 [a0] H nx k :=
  spec_of_body mixed namesOK cfn17 ok17 (by simp) ((eq17 a0 H nx k).symm ▸ h)

/-! 19: ordinal/ordinallaw30.EliminationTrees.1 -/
def d19 : D :=
  (.seq
    (.ops [
        (none, [⟨none, some 2, .a (.box (.s 0))⟩,
        ⟨none, some 3, .p (.mv (.c (.bool false)))⟩])] (.one .nil))
    (.seq
      (.draw [0, 0, 2, 7, 15, 31] [
          (none, [⟨none, some 4, .r (.ld (.s 1) none)⟩,
          ⟨none, some 5, .r (.ld (.s 2) (some 3))⟩,
          ⟨none, some 6, .e (.call (.c (.func (.func 20) ⟨[]⟩ ⟨[]⟩)) [.s 5])⟩,
          ⟨none, some 7, .p (.bin .andNot (.s 4) (.s 6))⟩,
          ⟨none, some 8, .p (.bin .eql (.s 7) (.c (.int .u32 0)))⟩,
          ⟨none, some 3, .p (.mv (.s 8))⟩])] (.one .nil))
      .ret))
theorem cfn19 : cfn Try.prog 19 = some ⟨9, 4, d19.erase, [(.s 3, none)]⟩ := by kernel_rfl
theorem ok19 : d19.ok 9 4 = true := by kernel_rfl
noncomputable def F19 (a0 a1 : Value) (H : Heap) (nx : Nat) (k : EP) : Prop :=
  dBox a0 fun tc_1 => wNew (.cells tc_1 0) .ptr H nx fun t2_2 H1 nx1 =>
  forceN (nx1 + 6) fun nx2 =>
  wLd a1 none H1 fun t4_3 =>
  wLd t2_2 (some 3) H1 fun t5_4 =>
  wCall Try.prog 20 [t5_4] H1 nx2 fun t6_5 H3 nx3 =>
  wBin .andNot t4_3 t6_5 fun t7_6 =>
  wBin .eql t7_6 (.int .u32 0) fun t8_7 =>
  (((((True) ∧ ((wLd t2_2 (some 3) H1 fun tq_10 => tq_10 = t5_4) ∧ True)) ∧ (((wLd a1 none H3 fun tq_8 => tq_8 = t4_3) ∧ ((wLd a1 none H1 fun tq_9 => tq_9 = t4_3) ∧ True)) ∧ True))) ∧ (
    forceV t8_7 fun tv_11 => k tv_11 H3 nx3)) ∨ False
theorem eq19 (a0 a1 : Value) (H : Heap) (nx : Nat) (k : EP) : wBody Try.prog 9 4 d19 [(.s 3, none)] [a0, a1] H nx k = F19 a0 a1 H nx k := by kernel_rfl
theorem spec19 {a0 a1 : Value} {H : Heap} {nx : Nat} {k : EP} (h : F19 a0 a1 H nx k) : Ans Try.prog 19 [a0, a1] H nx k :=
  spec_of_body mixed namesOK cfn19 ok19 (by simp) ((eq19 a0 a1 H nx k).symm ▸ h)

/-! 36: slices.IndexFunc[[]ordinal/elimination.Bag,ordinal/elimination.Bag] -/
def d36 : D :=
  (.seq
    (.ops [
        (none, [⟨none, some 4, .p (.mv (.c (.int .i64 0)))⟩])] (.one .nil))
    (.seq
      (.seq
        (.ops [
            (none, [⟨none, some 6, .p (.mv (.s 0))⟩,
            ⟨none, some 7, .r (.len (.s 6) 0)⟩,
            ⟨none, some 8, .p (.mv (.c (.int .i64 0)))⟩])] (.one .nil))
        (.block 0
          (.loop [8] [4, 5, 9, 10, 11, 12, 13, 14, 15, 16, 17, 18]
            (.seq
              (.ops [
                  (none, [⟨none, some 9, .p (.bin .lss (.s 8) (.s 7))⟩])] (.one .nil))
              (.seq
                (.cond (.s 9)
                  .skip
                  (.exit 0))
                (.seq
                  (.block 1
                    (.seq
                      (.ops [
                          (none, [⟨none, some 10, .p (.mv (.s 8))⟩,
                          ⟨none, some 5, .p (.mv (.s 10))⟩])] (.one .nil))
                      (.seq
                        (.ops [
                            (none, [⟨none, some 11, .p (.mv (.s 1))⟩,
                            ⟨none, some 12, .p (.mv (.s 0))⟩,
                            ⟨none, some 13, .p (.mv (.s 5))⟩,
                            ⟨none, some 14, .p (.idx (.s 12) (.s 13) none 3)⟩,
                            ⟨none, some 15, .r (.ld (.s 14) (some 3))⟩,
                            ⟨none, some 16, .e (.call (.s 11) [.s 15])⟩])] (.one .nil))
                        (.cond (.s 16)
                          (.seq
                            (.ops [
                                (none, [⟨none, some 17, .p (.mv (.s 5))⟩,
                                ⟨none, some 4, .p (.mv (.s 17))⟩])] (.one .nil))
                            .ret)
                          .skip))))
                  (.ops [
                      (none, [⟨none, some 18, .p (.bin .add (.s 8) (.c (.int .i64 1)))⟩,
                      ⟨none, some 8, .p (.mv (.s 18))⟩])] (.one .nil))))))))
      (.seq
        (.ops [
            (none, [⟨none, some 4, .p (.mv (.c (.int .i64 (-1))))⟩])] (.one .nil))
        .ret)))
theorem cfn36 : cfn Try.prog 36 = some ⟨19, 5, d36.erase, [(.s 4, none)]⟩ := by kernel_rfl
theorem ok36 : d36.ok 19 5 = true := by kernel_rfl
noncomputable def F36 (a0 a1 : Value) (H : Heap) (nx : Nat) (k : EP) : Prop :=
  wLen a0 0 H fun t7_1 =>
  wLoop (fun tih_2 tL_3 H1 nx1 =>
    wBin .lss (tL_3.getD 0 undef) t7_1 fun t9_4 =>
    wIf t9_4 (
      wIdx a0 (tL_3.getD 0 undef) none 3 fun t14_5 =>
      wLd t14_5 (some 3) H1 fun t15_6 =>
      wCallV Try.prog a1 [t15_6] H1 nx1 fun t16_7 H2 nx2 =>
      wIf t16_7 (
        forceV (tL_3.getD 0 undef) fun tv_8 => k tv_8 H2 nx2) (
        wBin .add (tL_3.getD 0 undef) (.int .i64 1) fun t18_9 =>
        tih_2 [t18_9] H2 nx2)) (
      forceV (.int .i64 (-1)) fun tv_10 => k tv_10 H1 nx1)) [(.int .i64 0)] H nx
theorem eq36 (a0 a1 : Value) (H : Heap) (nx : Nat) (k : EP) : wBody Try.prog 19 5 d36 [(.s 4, none)] [a0, a1] H nx k = F36 a0 a1 H nx k := by kernel_rfl
theorem spec36 {a0 a1 : Value} {H : Heap} {nx : Nat} {k : EP} (h : F36 a0 a1 H nx k) : Ans Try.prog 36 [a0, a1] H nx k :=
  spec_of_body mixed namesOK cfn36 ok36 (by simp) ((eq36 a0 a1 H nx k).symm ▸ h)

/-! 18: slices.ContainsFunc[[]ordinal/elimination.Bag,ordinal/elimination.Bag] -/
def d18 : D :=
  (.seq
    (.ops [
        (none, [⟨none, some 4, .p (.mv (.c (.bool false)))⟩])] (.one .nil))
    (.seq
      (.ops [
          (none, [⟨none, some 5, .p (.mv (.s 0))⟩,
          ⟨none, some 6, .p (.mv (.s 1))⟩,
          ⟨none, some 7, .e (.call (.c (.func (.func 36) ⟨[]⟩ ⟨[]⟩)) [.s 5, .s 6])⟩,
          ⟨none, some 8, .p (.bin .geq (.s 7) (.c (.int .i64 0)))⟩,
          ⟨none, some 4, .p (.mv (.s 8))⟩])] (.one .nil))
      .ret))
theorem cfn18 : cfn Try.prog 18 = some ⟨9, 4, d18.erase, [(.s 4, none)]⟩ := by kernel_rfl
theorem ok18 : d18.ok 9 4 = true := by kernel_rfl
noncomputable def F18 (a0 a1 : Value) (H : Heap) (nx : Nat) (k : EP) : Prop :=
  wCall Try.prog 36 [a0, a1] H nx fun t7_1 H1 nx1 =>
  wBin .geq t7_1 (.int .i64 0) fun t8_2 =>
  forceV t8_2 fun tv_3 => k tv_3 H1 nx1
theorem eq18 (a0 a1 : Value) (H : Heap) (nx : Nat) (k : EP) : wBody Try.prog 9 4 d18 [(.s 4, none)] [a0, a1] H nx k = F18 a0 a1 H nx k := by kernel_rfl
theorem spec18 {a0 a1 : Value} {H : Heap} {nx : Nat} {k : EP} (h : F18 a0 a1 H nx k) : Ans Try.prog 18 [a0, a1] H nx k :=
  spec_of_body mixed namesOK cfn18 ok18 (by simp) ((eq18 a0 a1 H nx k).symm ▸ h)

/-! 5: ordinal/ordinallaw30.EliminationTrees -/
def d5 : D :=
  (.seq
    (.ops [
        (none, [⟨none, some 3, .a (.box (.s 0))⟩,
        ⟨none, some 6, .p (.mv (.c (.bool false)))⟩])] (.one .nil))
    (.seq
      (.join [26] [12, 13, 14, 15, 16, 17, 18, 19, 20, 21, 22, 23, 24, 25]
        (.ops [
            (none, [⟨none, some 12, .r (.ld (.s 3) (some 2))⟩,
            ⟨none, some 13, .e (.call (.c (.func (.func 17) ⟨[]⟩ ⟨[]⟩)) [.s 12])⟩,
            ⟨none, some 14, .p (.un .not (.s 13))⟩,
            ⟨none, some 15, .p (.mv (.s 14))⟩]),
            (some (15, false), [⟨none, some 16, .p (.mv (.s 2))⟩,
            ⟨none, some 17, .r (.len (.s 16) 0)⟩,
            ⟨none, some 18, .p (.bin .gtr (.s 17) (.c (.int .i64 10)))⟩]),
            (none, [⟨none, some 19, .p (.pick (.s 15) (.c (.bool true)) (.s 18))⟩,
            ⟨none, some 20, .p (.mv (.s 19))⟩]),
            (some (20, false), [⟨none, some 21, .r (.ld (.s 3) (some 2))⟩,
            ⟨none, some 22, .p (.mv (.s 1))⟩,
            ⟨none, some 23, .p (.mv (.s 2))⟩,
            ⟨none, some 24, .e (.call (.c (.func (.func 8) ⟨[]⟩ ⟨[]⟩)) [.s 21, .s 22, .s 23])⟩,
            ⟨none, some 25, .p (.bin .neq (.s 24) (.c (.int .i64 0)))⟩]),
            (none, [⟨none, some 26, .p (.pick (.s 20) (.c (.bool true)) (.s 25))⟩])] (.one (.tst (.one (.tst (.one .nil) (.one .nil))) (.one (.one (.one .nil))))))
        (.cond (.s 26)
          (.seq
            (.ops [
                (none, [⟨none, some 27, .e (.call (.c (.func (.func 7) ⟨[]⟩ ⟨[]⟩)) [])⟩,
                ⟨none, some 6, .p (.mv (.s 27))⟩])] (.one .nil))
            .ret)
          .skip))
      (.seq
        (.seq
          (.ops [
              (none, [⟨none, some 28, .p (.fld (.s 3) 1)⟩,
              ⟨none, some 29, .r (.ld (.s 28) none)⟩,
              ⟨none, some 30, .r (.len (.s 29) 0)⟩,
              ⟨none, some 31, .p (.mv (.c (.int .i64 0)))⟩])] (.one .nil))
          (.block 0
            (.loop [31] [6, 8, 32, 33, 34, 35, 36, 37, 38, 39, 40, 41, 42, 43]
              (.seq
                (.ops [
                    (none, [⟨none, some 32, .p (.bin .lss (.s 31) (.s 30))⟩])] (.one .nil))
                (.seq
                  (.cond (.s 32)
                    .skip
                    (.exit 0))
                  (.seq
                    (.block 1
                      (.seq
                        (.ops [
                            (none, [⟨none, some 33, .p (.idx (.s 29) (.s 31) none 1)⟩,
                            ⟨none, some 34, .r (.ld (.s 33) none)⟩,
                            ⟨none, some 8, .a (.alloc [.int .u32 0])⟩,
                            ⟨none, none, .e (.st (.s 8) (.s 34) 1)⟩])] (.one .nil))
                        (.join [42] [35, 36, 37, 38, 39, 40, 41]
                          (.ops [
                              (none, [⟨none, some 35, .r (.ld (.s 8) none)⟩,
                              ⟨none, some 36, .p (.bin .neq (.s 35) (.c (.int .u32 0)))⟩,
                              ⟨none, some 37, .p (.mv (.s 36))⟩]),
                              (some (37, true), [⟨none, some 38, .p (.mv (.s 2))⟩,
                              ⟨none, some 39, .p (.mkf (.func 19) [] [.s 8])⟩,
                              ⟨none, some 40, .e (.call (.c (.func (.func 18) ⟨[]⟩ ⟨[]⟩)) [.s 38, .s 39])⟩,
                              ⟨none, some 41, .p (.un .not (.s 40))⟩]),
                              (none, [⟨none, some 42, .p (.pick (.s 37) (.s 41) (.c (.bool false)))⟩])] (.one (.tst (.one .nil) (.one .nil))))
                          (.cond (.s 42)
                            (.seq
                              (.ops [
                                  (none, [⟨none, some 6, .p (.mv (.c (.bool false)))⟩])] (.one .nil))
                              .ret)
                            .skip))))
                    (.ops [
                        (none, [⟨none, some 43, .p (.bin .add (.s 31) (.c (.int .i64 1)))⟩,
                        ⟨none, some 31, .p (.mv (.s 43))⟩])] (.one .nil))))))))
        (.seq
          (.seq
            (.ops [
                (none, [⟨none, some 44, .p (.mv (.s 2))⟩,
                ⟨none, some 45, .r (.len (.s 44) 0)⟩,
                ⟨none, some 46, .p (.mv (.c (.int .i64 0)))⟩])] (.one .nil))
            (.block 2
              (.loop [46] [6, 9, 10, 11, 47, 48, 49, 50, 51, 52, 53, 54, 55, 56, 57, 58, 59, 60, 61, 62, 63, 64, 65, 66, 67, 68, 69, 70, 71, 72, 73, 74, 75, 76, 77, 78, 79, 80, 81, 82, 83, 84, 85, 86, 87, 88, 89, 90, 91, 92, 93, 94, 95, 96, 97, 98, 99, 100, 101, 102, 103, 104, 105, 106, 107]
                (.seq
                  (.ops [
                      (none, [⟨none, some 47, .p (.bin .lss (.s 46) (.s 45))⟩])] (.one .nil))
                  (.seq
                    (.cond (.s 47)
                      .skip
                      (.exit 2))
                    (.seq
                      (.block 3
                        (.seq
                          (.ops [
                              (none, [⟨none, some 48, .p (.mv (.s 46))⟩,
                              ⟨none, some 49, .p (.idx (.s 44) (.s 46) none 3)⟩,
                              ⟨none, some 50, .r (.ld (.s 49) (some 3))⟩,
                              ⟨none, some 10, .a (.alloc [.int .i64 0, .int .u32 0, .int .i64 0])⟩,
                              ⟨none, some 9, .p (.mv (.s 48))⟩,
                              ⟨none, none, .e (.st (.s 10) (.s 50) 3)⟩])] (.one .nil))
                          (.seq
                            (.join [72] [51, 52, 53, 54, 55, 56, 57, 58, 59, 60, 61, 62, 63, 64, 65, 66, 67, 68, 69, 70, 71]
                              (.ops [
                                  (none, [⟨none, some 51, .p (.fld (.s 10) 0)⟩,
                                  ⟨none, some 52, .r (.ld (.s 51) none)⟩,
                                  ⟨none, some 53, .p (.mv (.s 9))⟩,
                                  ⟨none, some 54, .p (.bin .neq (.s 52) (.s 53))⟩,
                                  ⟨none, some 55, .p (.mv (.s 54))⟩]),
                                  (some (55, false), [⟨none, some 56, .p (.mv (.s 9))⟩,
                                  ⟨none, some 57, .p (.mv (.s 1))⟩,
                                  ⟨none, some 58, .p (.bin .lss (.s 56) (.s 57))⟩,
                                  ⟨none, some 59, .p (.mv (.s 58))⟩]),
                                  (some (59, true), [⟨none, some 60, .p (.fld (.s 10) 2)⟩,
                                  ⟨none, some 61, .r (.ld (.s 60) none)⟩,
                                  ⟨none, some 62, .p (.mv (.s 9))⟩,
                                  ⟨none, some 63, .p (.bin .geq (.s 61) (.s 62))⟩,
                                  ⟨none, some 64, .p (.mv (.s 63))⟩]),
                                  (some (64, false), [⟨none, some 65, .p (.fld (.s 10) 1)⟩,
                                  ⟨none, some 66, .r (.ld (.s 65) none)⟩,
                                  ⟨none, some 67, .p (.mv (.s 9))⟩,
                                  ⟨none, some 68, .p (.bin .shr (.s 66) (.s 67))⟩,
                                  ⟨none, some 69, .p (.bin .neq (.s 68) (.c (.int .u32 0)))⟩]),
                                  (some (59, true), [⟨none, some 70, .p (.pick (.s 64) (.c (.bool true)) (.s 69))⟩]),
                                  (some (55, false), [⟨none, some 71, .p (.pick (.s 59) (.s 70) (.c (.bool false)))⟩]),
                                  (none, [⟨none, some 72, .p (.pick (.s 55) (.c (.bool true)) (.s 71))⟩])] (.one (.tst (.tst (.tst (.one (.one (.one .nil))) (.one (.one (.one .nil)))) (.one (.one (.one (.one .nil))))) (.one (.one (.one (.one (.one .nil))))))))
                              (.cond (.s 72)
                                (.seq
                                  (.ops [
                                      (none, [⟨none, some 6, .p (.mv (.c (.bool false)))⟩])] (.one .nil))
                                  .ret)
                                .skip))
                            (.seq
                              (.ops [
                                  (none, [⟨none, some 73, .p (.mv (.s 2))⟩,
                                  ⟨none, some 74, .r (.len (.s 73) 0)⟩,
                                  ⟨none, some 75, .p (.mv (.c (.int .i64 0)))⟩])] (.one .nil))
                              (.block 4
                                (.loop [75] [6, 11, 76, 77, 78, 79, 80, 81, 82, 83, 84, 85, 86, 87, 88, 89, 90, 91, 92, 93, 94, 95, 96, 97, 98, 99, 100, 101, 102, 103, 104, 105, 106]
                                  (.seq
                                    (.ops [
                                        (none, [⟨none, some 76, .p (.bin .lss (.s 75) (.s 74))⟩])] (.one .nil))
                                    (.seq
                                      (.cond (.s 76)
                                        .skip
                                        (.exit 4))
                                      (.seq
                                        (.block 5
                                          (.seq
                                            (.ops [
                                                (none, [⟨none, some 77, .p (.mv (.s 75))⟩,
                                                ⟨none, some 11, .p (.mv (.s 77))⟩])] (.one .nil))
                                            (.join [105] [78, 79, 80, 81, 82, 83, 84, 85, 86, 87, 88, 89, 90, 91, 92, 93, 94, 95, 96, 97, 98, 99, 100, 101, 102, 103, 104]
                                              (.ops [
                                                  (none, [⟨none, some 78, .r (.ld (.s 10) (some 3))⟩,
                                                  ⟨none, some 79, .e (.call (.c (.func (.func 20) ⟨[]⟩ ⟨[]⟩)) [.s 78])⟩,
                                                  ⟨none, some 80, .p (.mv (.s 11))⟩,
                                                  ⟨none, some 81, .p (.bin .shr (.s 79) (.s 80))⟩,
                                                  ⟨none, some 82, .p (.bin .and (.s 81) (.c (.int .u32 1)))⟩,
                                                  ⟨none, some 83, .p (.bin .eql (.s 82) (.c (.int .u32 1)))⟩,
                                                  ⟨none, some 84, .p (.mv (.s 83))⟩]),
                                                  (some (84, true), [⟨none, some 85, .p (.mv (.s 11))⟩,
                                                  ⟨none, some 86, .p (.mv (.s 9))⟩,
                                                  ⟨none, some 87, .p (.bin .neq (.s 85) (.s 86))⟩]),
                                                  (none, [⟨none, some 88, .p (.pick (.s 84) (.s 87) (.c (.bool false)))⟩,
                                                  ⟨none, some 89, .p (.mv (.s 88))⟩]),
                                                  (some (89, true), [⟨none, some 90, .p (.fld (.s 10) 2)⟩,
                                                  ⟨none, some 91, .r (.ld (.s 90) none)⟩,
                                                  ⟨none, some 92, .p (.bin .lss (.s 91) (.c (.int .i64 0)))⟩,
                                                  ⟨none, some 93, .p (.mv (.s 92))⟩]),
                                                  (some (93, false), [⟨none, some 94, .p (.mv (.s 2))⟩,
                                                  ⟨none, some 95, .p (.fld (.s 10) 2)⟩,
                                                  ⟨none, some 96, .r (.ld (.s 95) none)⟩,
                                                  ⟨none, some 97, .p (.idx (.s 94) (.s 96) none 3)⟩,
                                                  ⟨none, some 98, .r (.ld (.s 97) (some 3))⟩,
                                                  ⟨none, some 99, .e (.call (.c (.func (.func 20) ⟨[]⟩ ⟨[]⟩)) [.s 98])⟩,
                                                  ⟨none, some 100, .p (.mv (.s 11))⟩,
                                                  ⟨none, some 101, .p (.bin .shr (.s 99) (.s 100))⟩,
                                                  ⟨none, some 102, .p (.bin .and (.s 101) (.c (.int .u32 1)))⟩,
                                                  ⟨none, some 103, .p (.bin .eql (.s 102) (.c (.int .u32 0)))⟩]),
                                                  (some (89, true), [⟨none, some 104, .p (.pick (.s 93) (.c (.bool true)) (.s 103))⟩]),
                                                  (none, [⟨none, some 105, .p (.pick (.s 89) (.s 104) (.c (.bool false)))⟩])] (.one (.tst (.one (.tst (.tst (.one (.one .nil)) (.one (.one .nil))) (.one (.one (.one .nil))))) (.one (.one (.one (.one (.one .nil))))))))
                                              (.cond (.s 105)
                                                (.seq
                                                  (.ops [
                                                      (none, [⟨none, some 6, .p (.mv (.c (.bool false)))⟩])] (.one .nil))
                                                  .ret)
                                                .skip))))
                                        (.ops [
                                            (none, [⟨none, some 106, .p (.bin .add (.s 75) (.c (.int .i64 1)))⟩,
                                            ⟨none, some 75, .p (.mv (.s 106))⟩])] (.one .nil)))))))))))
                      (.ops [
                          (none, [⟨none, some 107, .p (.bin .add (.s 46) (.c (.int .i64 1)))⟩,
                          ⟨none, some 46, .p (.mv (.s 107))⟩])] (.one .nil))))))))
          (.seq
            (.ops [
                (none, [⟨none, some 108, .e (.call (.c (.func (.func 7) ⟨[]⟩ ⟨[]⟩)) [])⟩,
                ⟨none, some 6, .p (.mv (.s 108))⟩])] (.one .nil))
            .ret)))))
theorem cfn5 : cfn Try.prog 5 = some ⟨109, 7, d5.erase, [(.s 6, none)]⟩ := by kernel_rfl
theorem ok5 : d5.ok 109 7 = true := by kernel_rfl
noncomputable def F5 (a0 a1 a2 : Value) (H : Heap) (nx : Nat) (k : EP) : Prop :=
  dBox a0 fun tc_1 => wNew (.cells tc_1 0) .ptr H nx fun t3_2 H1 nx1 =>
  wJoin (fun tj_3 =>
    wLd t3_2 (some 2) H1 fun t12_5 =>
    wCall Try.prog 17 [t12_5] H1 nx1 fun t13_6 H3 nx3 =>
    wUn .not t13_6 fun t14_7 =>
    wGuard false t14_7 (
      wLen a2 0 H3 fun t17_8 =>
      wBin .gtr t17_8 (.int .i64 10) fun t18_9 =>
      wGuard false t18_9 (
        wLd t3_2 (some 2) H3 fun t21_10 =>
        wCall Try.prog 8 [t21_10, a1, a2] H3 nx3 fun t24_11 H4 nx4 =>
        wBin .neq t24_11 (.int .i64 0) fun t25_12 =>
        tj_3 [t25_12] H4 nx4) (
        tj_3 [(.bool true)] H3 nx3)) (
        tj_3 [(.bool true)] H3 nx3)) (fun tL_4 H2 nx2 =>
    wIf (tL_4.getD 0 undef) (
      wCall Try.prog 7 [] H2 nx2 fun t27_13 H5 nx5 =>
      forceV t27_13 fun tv_14 => k tv_14 H5 nx5) (
      wFld t3_2 1 fun t28_15 =>
      wLd t28_15 none H2 fun t29_16 =>
      wLen t29_16 0 H2 fun t30_17 =>
      wLoop (fun tih_18 tL_19 H6 nx6 =>
        wBin .lss (tL_19.getD 0 undef) t30_17 fun t32_20 =>
        wIf t32_20 (
          wIdx t29_16 (tL_19.getD 0 undef) none 1 fun t33_21 =>
          wLd t33_21 none H6 fun t34_22 =>
          wNew (.cells [.int .u32 0] 0) .ptr H6 nx6 fun t8_23 H7 nx7 =>
          wSt t8_23 t34_22 1 H7 fun H8 =>
          wJoin (fun tj_24 =>
            wLd t8_23 none H8 fun t35_26 =>
            wBin .neq t35_26 (.int .u32 0) fun t36_27 =>
            wGuard true t36_27 (
              wCall Try.prog 18 [a2, (.func (.func 19) ⟨[]⟩ ⟨[t8_23]⟩)] H8 nx7 fun t40_28 H10 nx10 =>
              wUn .not t40_28 fun t41_29 =>
              tj_24 [t41_29] H10 nx10) (
              tj_24 [(.bool false)] H8 nx7)) (fun tL_25 H9 nx9 =>
            wIf (tL_25.getD 0 undef) (
              forceV (.bool false) fun tv_30 => k tv_30 H9 nx9) (
              wBin .add (tL_19.getD 0 undef) (.int .i64 1) fun t43_31 =>
              tih_18 [t43_31] H9 nx9))) (
          wLen a2 0 H6 fun t45_32 =>
          wLoop (fun tih_33 tL_34 H11 nx11 =>
            wBin .lss (tL_34.getD 0 undef) t45_32 fun t47_35 =>
            wIf t47_35 (
              wIdx a2 (tL_34.getD 0 undef) none 3 fun t49_36 =>
              wLd t49_36 (some 3) H11 fun t50_37 =>
              wNew (.cells [.int .i64 0, .int .u32 0, .int .i64 0] 0) .ptr H11 nx11 fun t10_38 H12 nx12 =>
              wSt t10_38 t50_37 3 H12 fun H13 =>
              wJoin (fun tj_39 =>
                wFld t10_38 0 fun t51_41 =>
                wLd t51_41 none H13 fun t52_42 =>
                wBin .neq t52_42 (tL_34.getD 0 undef) fun t54_43 =>
                wGuard false t54_43 (
                  wBin .lss (tL_34.getD 0 undef) a1 fun t58_44 =>
                  wGuard true t58_44 (
                    wFld t10_38 2 fun t60_45 =>
                    wLd t60_45 none H13 fun t61_46 =>
                    wBin .geq t61_46 (tL_34.getD 0 undef) fun t63_47 =>
                    wGuard false t63_47 (
                      wFld t10_38 1 fun t65_48 =>
                      wLd t65_48 none H13 fun t66_49 =>
                      wBin .shr t66_49 (tL_34.getD 0 undef) fun t68_50 =>
                      wBin .neq t68_50 (.int .u32 0) fun t69_51 =>
                          tj_39 [t69_51] H13 nx12) (
                          tj_39 [(.bool true)] H13 nx12)) (
                          tj_39 [(.bool false)] H13 nx12)) (
                          tj_39 [(.bool true)] H13 nx12)) (fun tL_40 H14 nx14 =>
                wIf (tL_40.getD 0 undef) (
                  forceV (.bool false) fun tv_52 => k tv_52 H14 nx14) (
                  wLen a2 0 H14 fun t74_53 =>
                  wLoop (fun tih_54 tL_55 H15 nx15 =>
                    wBin .lss (tL_55.getD 0 undef) t74_53 fun t76_56 =>
                    wIf t76_56 (
                      wJoin (fun tj_57 =>
                        wLd t10_38 (some 3) H15 fun t78_59 =>
                        wCall Try.prog 20 [t78_59] H15 nx15 fun t79_60 H17 nx17 =>
                        wBin .shr t79_60 (tL_55.getD 0 undef) fun t81_61 =>
                        wBin .and t81_61 (.int .u32 1) fun t82_62 =>
                        wBin .eql t82_62 (.int .u32 1) fun t83_63 =>
                        wGuard true t83_63 (
                          wBin .neq (tL_55.getD 0 undef) (tL_34.getD 0 undef) fun t87_64 =>
                          wGuard true t87_64 (
                            wFld t10_38 2 fun t90_65 =>
                            wLd t90_65 none H17 fun t91_66 =>
                            wBin .lss t91_66 (.int .i64 0) fun t92_67 =>
                            wGuard false t92_67 (
                              wFld t10_38 2 fun t95_68 =>
                              wLd t95_68 none H17 fun t96_69 =>
                              wIdx a2 t96_69 none 3 fun t97_70 =>
                              wLd t97_70 (some 3) H17 fun t98_71 =>
                              wCall Try.prog 20 [t98_71] H17 nx17 fun t99_72 H18 nx18 =>
                              wBin .shr t99_72 (tL_55.getD 0 undef) fun t101_73 =>
                              wBin .and t101_73 (.int .u32 1) fun t102_74 =>
                              wBin .eql t102_74 (.int .u32 0) fun t103_75 =>
                                tj_57 [t103_75] H18 nx18) (
                                tj_57 [(.bool true)] H17 nx17)) (
                                tj_57 [(.bool false)] H17 nx17)) (
                                tj_57 [(.bool false)] H17 nx17)) (fun tL_58 H16 nx16 =>
                        wIf (tL_58.getD 0 undef) (
                          forceV (.bool false) fun tv_76 => k tv_76 H16 nx16) (
                          wBin .add (tL_55.getD 0 undef) (.int .i64 1) fun t106_77 =>
                          tih_54 [t106_77] H16 nx16))) (
                      wBin .add (tL_34.getD 0 undef) (.int .i64 1) fun t107_78 =>
                      tih_33 [t107_78] H15 nx15)) [(.int .i64 0)] H14 nx14))) (
              wCall Try.prog 7 [] H11 nx11 fun t108_79 H19 nx19 =>
              forceV t108_79 fun tv_80 => k tv_80 H19 nx19)) [(.int .i64 0)] H6 nx6)) [(.int .i64 0)] H2 nx2))
theorem eq5 (a0 a1 a2 : Value) (H : Heap) (nx : Nat) (k : EP) : wBody Try.prog 109 7 d5 [(.s 6, none)] [a0, a1, a2] H nx k = F5 a0 a1 a2 H nx k := by kernel_rfl
theorem spec5 {a0 a1 a2 : Value} {H : Heap} {nx : Nat} {k : EP} (h : F5 a0 a1 a2 H nx k) : Ans Try.prog 5 [a0, a1, a2] H nx k :=
  spec_of_body mixed namesOK cfn5 ok5 (by simp) ((eq5 a0 a1 a2 H nx k).symm ▸ h)

end Go.Proofs.Ytaieijjfabbfeaa
