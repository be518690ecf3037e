/-
  MADE BY PROGRAM (wip/gen/gen.py): functions 14 16 17 18 19 9 8 24 13 22 23 25 26 12 35 21 as marked code, and their claims written out.
-/
import Derived.Test.YtjpgddpobnjmkaaDoorK6
import Derived.KernelRfl
set_option linter.unusedSimpArgs false
set_option linter.unusedVariables false
set_option linter.unusedSectionVars false
namespace Go.Proofs.YtjpgddpobnjmkaaDoor
open Go.Clo
set_option maxRecDepth 100000
/-! 14: ordinal/explain.checked -/
def d14 : D :=
  (.seq
    (.ops [
        (none, [⟨none, some 2, .p (.mv (.c (.int .i64 0)))⟩])] (.one .nil))
    (.seq
      (.seq
        (.ops [
            (none, [⟨none, some 4, .p (.mv (.s 0))⟩,
            ⟨none, some 5, .e (.call (.c (.func (.func 27) ⟨[]⟩ ⟨[]⟩)) [.s 4, .c (.func (.func 28) ⟨[]⟩ ⟨[]⟩)])⟩])] (.one .nil))
        (.cond (.s 5)
          (.seq
            (.ops [
                (none, [⟨none, some 2, .p (.mv (.c (.int .i64 7)))⟩])] (.one .nil))
            .ret)
          .skip))
      (.seq
        (.ops [
            (none, [⟨none, some 6, .p (.mv (.s 0))⟩,
            ⟨none, some 7, .e (.call (.c (.func (.func 31) ⟨[]⟩ ⟨[]⟩)) [.s 6])⟩,
            ⟨none, some 8, .e (.call (.c (.func (.func 30) ⟨[]⟩ ⟨[]⟩)) [.s 7])⟩,
            ⟨none, some 3, .p (.mv (.s 8))⟩])] (.one .nil))
        (.seq
          (.seq
            (.ops [
                (none, [⟨none, some 9, .p (.mv (.s 3))⟩,
                ⟨none, some 10, .e (.call (.c (.func (.func 32) ⟨[]⟩ ⟨[]⟩)) [.s 9])⟩,
                ⟨none, some 11, .r (.len (.s 10) 0)⟩,
                ⟨none, some 12, .p (.mv (.s 0))⟩,
                ⟨none, some 13, .r (.len (.s 12) 0)⟩,
                ⟨none, some 14, .p (.bin .neq (.s 11) (.s 13))⟩])] (.one .nil))
            (.cond (.s 14)
              (.seq
                (.ops [
                    (none, [⟨none, some 2, .p (.mv (.c (.int .i64 8)))⟩])] (.one .nil))
                .ret)
              .skip))
          (.seq
            (.ops [
                (none, [⟨none, some 2, .p (.mv (.c (.int .i64 0)))⟩])] (.one .nil))
            .ret)))))
theorem cfn14 : cfn Tryd.prog 14 = some ⟨15, 4, d14.erase, [(.s 2, none)]⟩ := by kernel_rfl
theorem ok14 : d14.ok 15 4 = true := by kernel_rfl
noncomputable def F14 (a0 : Value) (H : Heap) (nx : Nat) (k : EP) : Prop :=
  wCall Tryd.prog 27 [a0, (.func (.func 28) ⟨[]⟩ ⟨[]⟩)] H nx fun t5_1 H1 nx1 =>
  wIf t5_1 (
    forceV (.int .i64 7) fun tv_2 => k tv_2 H1 nx1) (
    wCall Tryd.prog 31 [a0] H1 nx1 fun t7_3 H2 nx2 =>
    wCall Tryd.prog 30 [t7_3] H2 nx2 fun t8_4 H3 nx3 =>
    wCall Tryd.prog 32 [t8_4] H3 nx3 fun t10_5 H4 nx4 =>
    wLen t10_5 0 H4 fun t11_6 =>
    wLen a0 0 H4 fun t13_7 =>
    wBin .neq t11_6 t13_7 fun t14_8 =>
    wIf t14_8 (
      forceV (.int .i64 8) fun tv_9 => k tv_9 H4 nx4) (
      forceV (.int .i64 0) fun tv_10 => k tv_10 H4 nx4))
theorem eq14 (a0 : Value) (H : Heap) (nx : Nat) (k : EP) : wBody Tryd.prog 15 4 d14 [(.s 2, none)] [a0] H nx k = F14 a0 H nx k := by kernel_rfl
theorem spec14 {a0 : Value} {H : Heap} {nx : Nat} {k : EP} (h : F14 a0 H nx k) : Ans Tryd.prog 14 [a0] H nx k :=
  spec_of_body mixed namesOK cfn14 ok14 (by simp) ((eq14 a0 H nx k).symm ▸ h)

/-! 16: ordinal/explain.named -/
def d16 : D :=
  (.seq
    (.ops [
        (none, [⟨none, some 4, .p (.mv (.c (.slice none 0 0)))⟩,
        ⟨none, some 5, .p (.mv (.c (.int .i64 0)))⟩])] (.one .nil))
    (.seq
      (.ops [
          (none, [⟨none, some 9, .a (.bsl 0 1 [.string ⟨#[]⟩] [])⟩,
          ⟨none, some 6, .p (.mv (.s 9))⟩])] (.one .nil))
      (.seq
        (.seq
          (.ops [
              (none, [⟨none, some 10, .p (.mv (.s 1))⟩,
              ⟨none, some 11, .r (.len (.s 10) 0)⟩,
              ⟨none, some 12, .p (.mv (.c (.int .i64 0)))⟩])] (.one .nil))
          (.block 0
            (.loop [6, 12] [4, 5, 8, 13, 14, 15, 16, 17, 18, 19, 20, 21, 22, 23, 24, 25, 26, 27, 28, 29, 30, 31]
              (.seq
                (.ops [
                    (none, [⟨none, some 13, .p (.bin .lss (.s 12) (.s 11))⟩])] (.one .nil))
                (.seq
                  (.cond (.s 13)
                    .skip
                    (.exit 0))
                  (.seq
                    (.block 1
                      (.seq
                        (.ops [
                            (none, [⟨none, some 14, .p (.idx (.s 10) (.s 12) none 1)⟩,
                            ⟨none, some 15, .r (.ld (.s 14) none)⟩,
                            ⟨none, some 8, .p (.mv (.s 15))⟩])] (.one .nil))
                        (.seq
                          (.join [23] [16, 17, 18, 19, 20, 21, 22]
                            (.ops [
                                (none, [⟨none, some 16, .p (.mv (.s 8))⟩,
                                ⟨none, some 17, .p (.bin .lss (.s 16) (.c (.int .i64 0)))⟩,
                                ⟨none, some 18, .p (.mv (.s 17))⟩]),
                                (some (18, false), [⟨none, some 19, .p (.mv (.s 8))⟩,
                                ⟨none, some 20, .p (.mv (.s 0))⟩,
                                ⟨none, some 21, .r (.len (.s 20) 0)⟩,
                                ⟨none, some 22, .p (.bin .geq (.s 19) (.s 21))⟩]),
                                (none, [⟨none, some 23, .p (.pick (.s 18) (.c (.bool true)) (.s 22))⟩])] (.one (.tst (.one .nil) (.one .nil))))
                            (.cond (.s 23)
                              (.seq
                                (.ops [
                                    (none, [⟨none, some 4, .p (.mv (.c (.slice none 0 0)))⟩,
                                    ⟨none, some 5, .p (.mv (.c (.int .i64 3)))⟩])] (.one .nil))
                                .ret)
                              .skip))
                          (.ops [
                              (none, [⟨none, some 24, .p (.mv (.s 6))⟩,
                              ⟨none, some 25, .p (.mv (.s 0))⟩,
                              ⟨none, some 26, .p (.mv (.s 8))⟩,
                              ⟨none, some 27, .p (.idx (.s 25) (.s 26) none 1)⟩,
                              ⟨none, some 28, .r (.ld (.s 27) none)⟩,
                              ⟨none, some 29, .a (.bsl 1 1 [.string ⟨#[]⟩] [(0, .s 28)])⟩,
                              ⟨none, some 30, .e (.app (.s 24) (.s 29) 1 16)⟩,
                              ⟨none, some 6, .p (.mv (.s 30))⟩])] (.one .nil)))))
                    (.ops [
                        (none, [⟨none, some 31, .p (.bin .add (.s 12) (.c (.int .i64 1)))⟩,
                        ⟨none, some 12, .p (.mv (.s 31))⟩])] (.one .nil))))))))
        (.seq
          (.ops [
              (none, [⟨none, some 32, .p (.mv (.s 6))⟩,
              ⟨none, some 4, .p (.mv (.s 32))⟩,
              ⟨none, some 5, .p (.mv (.c (.int .i64 0)))⟩])] (.one .nil))
          .ret))))
theorem cfn16 : cfn Tryd.prog 16 = some ⟨33, 6, d16.erase, [(.s 4, none), (.s 5, none)]⟩ := by kernel_rfl
theorem ok16 : d16.ok 33 6 = true := by kernel_rfl
noncomputable def F16 (a0 a1 : Value) (H : Heap) (nx : Nat) (k : EP) : Prop :=
  dBsl 0 1 [.string ⟨#[]⟩] [] fun tc_1 => wNew (.cells tc_1 0) (.slice 0 0) H nx fun t9_2 H1 nx1 =>
  wLen a1 0 H1 fun t11_3 =>
  wLoop (fun tih_4 tL_5 H2 nx2 =>
    wBin .lss (tL_5.getD 1 undef) t11_3 fun t13_6 =>
    wIf t13_6 (
      wIdx a1 (tL_5.getD 1 undef) none 1 fun t14_7 =>
      wLd t14_7 none H2 fun t15_8 =>
      wJoin (fun tj_9 =>
        wBin .lss t15_8 (.int .i64 0) fun t17_11 =>
        wGuard false t17_11 (
          wLen a0 0 H2 fun t21_12 =>
          wBin .geq t15_8 t21_12 fun t22_13 =>
          tj_9 [t22_13] H2 nx2) (
          tj_9 [(.bool true)] H2 nx2)) (fun tL_10 H3 nx3 =>
        wIf (tL_10.getD 0 undef) (
          forceV (.tuple ⟨[(.slice none 0 0), (.int .i64 3)]⟩) fun tv_14 => k tv_14 H3 nx3) (
          wIdx a0 t15_8 none 1 fun t27_15 =>
          wLd t27_15 none H3 fun t28_16 =>
          dBsl 1 1 [.string ⟨#[]⟩] [(0, t28_16)] fun tc_17 => wNew (.cells tc_17 0) (.slice 1 1) H3 nx3 fun t29_18 H4 nx4 =>
          wApp (tL_5.getD 0 undef) t29_18 1 16 H4 nx4 fun t30_19 H5 nx5 =>
          wBin .add (tL_5.getD 1 undef) (.int .i64 1) fun t31_20 =>
          tih_4 [t30_19, t31_20] H5 nx5))) (
      forceV (.tuple ⟨[(tL_5.getD 0 undef), (.int .i64 0)]⟩) fun tv_21 => k tv_21 H2 nx2)) [t9_2, (.int .i64 0)] H1 nx1
theorem eq16 (a0 a1 : Value) (H : Heap) (nx : Nat) (k : EP) : wBody Tryd.prog 33 6 d16 [(.s 4, none), (.s 5, none)] [a0, a1] H nx k = F16 a0 a1 H nx k := by kernel_rfl
theorem spec16 {a0 a1 : Value} {H : Heap} {nx : Nat} {k : EP} (h : F16 a0 a1 H nx k) : Ans Tryd.prog 16 [a0, a1] H nx k :=
  spec_of_body mixed namesOK cfn16 ok16 (by simp) ((eq16 a0 a1 H nx k).symm ▸ h)

/-! 17: ordinal/explain.joined -/
def d17 : D :=
  (.seq
    (.ops [
        (none, [⟨none, some 4, .p (.mv (.c (.string ⟨#[]⟩)))⟩])] (.one .nil))
    (.seq
      (.ops [
          (none, [⟨none, some 5, .p (.mv (.s 0))⟩,
          ⟨none, some 6, .a (.bsl 1 1 [.string ⟨#[]⟩] [(0, .s 5)])⟩,
          ⟨none, some 7, .p (.mv (.s 1))⟩,
          ⟨none, some 8, .e (.app (.s 6) (.s 7) 1 16)⟩,
          ⟨none, some 9, .e (.call (.c (.func (.func 33) ⟨[]⟩ ⟨[]⟩)) [.s 8, .c (.string ⟨#[32]⟩)])⟩,
          ⟨none, some 4, .p (.mv (.s 9))⟩])] (.one .nil))
      .ret))
theorem cfn17 : cfn Tryd.prog 17 = some ⟨10, 4, d17.erase, [(.s 4, none)]⟩ := by kernel_rfl
theorem ok17 : d17.ok 10 4 = true := by kernel_rfl
noncomputable def F17 (a0 a1 : Value) (H : Heap) (nx : Nat) (k : EP) : Prop :=
  dBsl 1 1 [.string ⟨#[]⟩] [(0, a0)] fun tc_1 => wNew (.cells tc_1 0) (.slice 1 1) H nx fun t6_2 H1 nx1 =>
  wApp t6_2 a1 1 16 H1 nx1 fun t8_3 H2 nx2 =>
  wCall Tryd.prog 33 [t8_3, (.string ⟨#[32]⟩)] H2 nx2 fun t9_4 H3 nx3 =>
  forceV t9_4 fun tv_5 => k tv_5 H3 nx3
theorem eq17 (a0 a1 : Value) (H : Heap) (nx : Nat) (k : EP) : wBody Tryd.prog 10 4 d17 [(.s 4, none)] [a0, a1] H nx k = F17 a0 a1 H nx k := by kernel_rfl
theorem spec17 {a0 a1 : Value} {H : Heap} {nx : Nat} {k : EP} (h : F17 a0 a1 H nx k) : Ans Tryd.prog 17 [a0, a1] H nx k :=
  spec_of_body mixed namesOK cfn17 ok17 (by simp) ((eq17 a0 a1 H nx k).symm ▸ h)

/-! 18: ordinal/ordinalref56.Names -/
def d18 : D :=
  (.seq
    (.ops [
        (none, [⟨none, some 2, .p (.mv (.c (.int .i64 0)))⟩])] (.one .nil))
    (.seq
      (.seq
        (.ops [
            (none, [⟨none, some 3, .p (.mv (.c (.int .i64 0)))⟩])] (.one .nil))
        (.block 0
          (.loop [3] [2, 6, 7, 8, 9, 10, 11, 12, 13, 14, 15, 16, 17]
            (.seq
              (.seq
                (.ops [
                    (none, [⟨none, some 6, .p (.mv (.s 3))⟩,
                    ⟨none, some 7, .p (.mv (.s 0))⟩,
                    ⟨none, some 8, .r (.len (.s 7) 0)⟩,
                    ⟨none, some 9, .p (.bin .lss (.s 6) (.s 8))⟩])] (.one .nil))
                (.cond (.s 9)
                  .skip
                  (.exit 0)))
              (.seq
                (.block 1
                  (.seq
                    (.ops [
                        (none, [⟨none, some 12, .p (.mv (.s 0))⟩,
                        ⟨none, some 13, .p (.mv (.s 3))⟩,
                        ⟨none, some 14, .p (.idx (.s 12) (.s 13) none 1)⟩,
                        ⟨none, some 15, .r (.ld (.s 14) none)⟩,
                        ⟨none, some 16, .e (.call (.c (.func (.func 34) ⟨[]⟩ ⟨[]⟩)) [.s 15])⟩,
                        ⟨none, some 17, .p (.un .not (.s 16))⟩])] (.one .nil))
                    (.cond (.s 17)
                      (.seq
                        (.ops [
                            (none, [⟨none, some 2, .p (.mv (.c (.int .i64 7)))⟩])] (.one .nil))
                        .ret)
                      .skip)))
                (.ops [
                    (none, [⟨none, some 10, .p (.mv (.s 3))⟩,
                    ⟨none, some 11, .p (.bin .add (.s 10) (.c (.int .i64 1)))⟩,
                    ⟨none, some 3, .p (.mv (.s 11))⟩])] (.one .nil)))))))
      (.seq
        (.seq
          (.ops [
              (none, [⟨none, some 4, .p (.mv (.c (.int .i64 0)))⟩])] (.one .nil))
          (.block 2
            (.loop [4] [2, 5, 18, 19, 20, 21, 22, 23, 24, 25, 26, 27, 28, 29, 30, 31, 32, 33, 34, 35, 36, 37]
              (.seq
                (.seq
                  (.ops [
                      (none, [⟨none, some 18, .p (.mv (.s 4))⟩,
                      ⟨none, some 19, .p (.mv (.s 0))⟩,
                      ⟨none, some 20, .r (.len (.s 19) 0)⟩,
                      ⟨none, some 21, .p (.bin .lss (.s 18) (.s 20))⟩])] (.one .nil))
                  (.cond (.s 21)
                    .skip
                    (.exit 2)))
                (.seq
                  (.block 3
                    (.seq
                      (.ops [
                          (none, [⟨none, some 5, .p (.mv (.c (.int .i64 0)))⟩])] (.one .nil))
                      (.block 4
                        (.loop [5] [2, 24, 25, 26, 27, 28, 29, 30, 31, 32, 33, 34, 35, 36, 37]
                          (.seq
                            (.seq
                              (.ops [
                                  (none, [⟨none, some 24, .p (.mv (.s 5))⟩,
                                  ⟨none, some 25, .p (.mv (.s 4))⟩,
                                  ⟨none, some 26, .p (.bin .lss (.s 24) (.s 25))⟩])] (.one .nil))
                              (.cond (.s 26)
                                .skip
                                (.exit 4)))
                            (.seq
                              (.block 5
                                (.seq
                                  (.draw [0, 0, 3, 7, 0, 0, 48, 112, 255] [
                                      (none, [⟨none, some 29, .p (.mv (.s 0))⟩,
                                      ⟨none, some 30, .p (.mv (.s 4))⟩,
                                      ⟨none, some 31, .p (.idx (.s 29) (.s 30) none 1)⟩,
                                      ⟨none, some 32, .r (.ld (.s 31) none)⟩,
                                      ⟨none, some 33, .p (.mv (.s 0))⟩,
                                      ⟨none, some 34, .p (.mv (.s 5))⟩,
                                      ⟨none, some 35, .p (.idx (.s 33) (.s 34) none 1)⟩,
                                      ⟨none, some 36, .r (.ld (.s 35) none)⟩,
                                      ⟨none, some 37, .p (.bin .eql (.s 32) (.s 36))⟩])] (.one .nil))
                                  (.cond (.s 37)
                                    (.seq
                                      (.ops [
                                          (none, [⟨none, some 2, .p (.mv (.c (.int .i64 8)))⟩])] (.one .nil))
                                      .ret)
                                    .skip)))
                              (.ops [
                                  (none, [⟨none, some 27, .p (.mv (.s 5))⟩,
                                  ⟨none, some 28, .p (.bin .add (.s 27) (.c (.int .i64 1)))⟩,
                                  ⟨none, some 5, .p (.mv (.s 28))⟩])] (.one .nil))))))))
                  (.ops [
                      (none, [⟨none, some 22, .p (.mv (.s 4))⟩,
                      ⟨none, some 23, .p (.bin .add (.s 22) (.c (.int .i64 1)))⟩,
                      ⟨none, some 4, .p (.mv (.s 23))⟩])] (.one .nil)))))))
        (.seq
          (.ops [
              (none, [⟨none, some 2, .p (.mv (.c (.int .i64 0)))⟩])] (.one .nil))
          .ret))))
theorem cfn18 : cfn Tryd.prog 18 = some ⟨38, 6, d18.erase, [(.s 2, none)]⟩ := by kernel_rfl
theorem ok18 : d18.ok 38 6 = true := by kernel_rfl
noncomputable def F18 (a0 : Value) (H : Heap) (nx : Nat) (k : EP) : Prop :=
  wLoop (fun tih_1 tL_2 H1 nx1 =>
    wLen a0 0 H1 fun t8_3 =>
    wBin .lss (tL_2.getD 0 undef) t8_3 fun t9_4 =>
    wIf t9_4 (
      wIdx a0 (tL_2.getD 0 undef) none 1 fun t14_5 =>
      wLd t14_5 none H1 fun t15_6 =>
      wCall Tryd.prog 34 [t15_6] H1 nx1 fun t16_7 H2 nx2 =>
      wUn .not t16_7 fun t17_8 =>
      wIf t17_8 (
        forceV (.int .i64 7) fun tv_9 => k tv_9 H2 nx2) (
        wBin .add (tL_2.getD 0 undef) (.int .i64 1) fun t11_10 =>
        tih_1 [t11_10] H2 nx2)) (
      wLoop (fun tih_11 tL_12 H3 nx3 =>
        wLen a0 0 H3 fun t20_13 =>
        wBin .lss (tL_12.getD 0 undef) t20_13 fun t21_14 =>
        wIf t21_14 (
          wLoop (fun tih_15 tL_16 H4 nx4 =>
            wBin .lss (tL_16.getD 0 undef) (tL_12.getD 0 undef) fun t26_17 =>
            wIf t26_17 (
              forceN (nx4 + 9) fun nx5 =>
              wIdx a0 (tL_12.getD 0 undef) none 1 fun t31_18 =>
              wLd t31_18 none H4 fun t32_19 =>
              wIdx a0 (tL_16.getD 0 undef) none 1 fun t35_20 =>
              wLd t35_20 none H4 fun t36_21 =>
              wBin .eql t32_19 t36_21 fun t37_22 =>
              (((((wLd t35_20 none H4 fun tq_24 => tq_24 = t36_21) ∧ True) ∧ (((wLd t31_18 none H4 fun tq_23 => tq_23 = t32_19) ∧ True) ∧ True))) ∧ (
                wIf t37_22 (
                  forceV (.int .i64 8) fun tv_25 => k tv_25 H4 nx5) (
                  wBin .add (tL_16.getD 0 undef) (.int .i64 1) fun t28_26 =>
                  tih_15 [t28_26] H4 nx5))) ∨ False) (
              wBin .add (tL_12.getD 0 undef) (.int .i64 1) fun t23_27 =>
              tih_11 [t23_27] H4 nx4)) [(.int .i64 0)] H3 nx3) (
          forceV (.int .i64 0) fun tv_28 => k tv_28 H3 nx3)) [(.int .i64 0)] H1 nx1)) [(.int .i64 0)] H nx
theorem eq18 (a0 : Value) (H : Heap) (nx : Nat) (k : EP) : wBody Tryd.prog 38 6 d18 [(.s 2, none)] [a0] H nx k = F18 a0 H nx k := by kernel_rfl
theorem spec18 {a0 : Value} {H : Heap} {nx : Nat} {k : EP} (h : F18 a0 H nx k) : Ans Tryd.prog 18 [a0] H nx k :=
  spec_of_body mixed namesOK cfn18 ok18 (by simp) ((eq18 a0 H nx k).symm ▸ h)

/-! 19: ordinal/ordinalref56.List -/
def d19 : D :=
  (.seq
    (.ops [
        (none, [⟨none, some 4, .p (.mv (.c (.string ⟨#[]⟩)))⟩,
        ⟨none, some 5, .p (.mv (.c (.int .i64 0)))⟩])] (.one .nil))
    (.seq
      (.ops [
          (none, [⟨none, some 6, .p (.mv (.c (.string ⟨#[]⟩)))⟩])] (.one .nil))
      (.seq
        (.seq
          (.ops [
              (none, [⟨none, some 7, .p (.mv (.c (.int .i64 0)))⟩])] (.one .nil))
          (.block 0
            (.loop [6, 7] [4, 5, 8, 9, 10, 11, 12, 13, 14, 15, 16, 17, 18, 19, 20, 21, 22, 23, 24, 25, 26, 27, 28, 29, 30, 31, 32, 33, 34, 35, 36, 37]
              (.seq
                (.seq
                  (.ops [
                      (none, [⟨none, some 8, .p (.mv (.s 7))⟩,
                      ⟨none, some 9, .p (.mv (.s 1))⟩,
                      ⟨none, some 10, .r (.len (.s 9) 0)⟩,
                      ⟨none, some 11, .p (.bin .lss (.s 8) (.s 10))⟩])] (.one .nil))
                  (.cond (.s 11)
                    .skip
                    (.exit 0)))
                (.seq
                  (.block 1
                    (.seq
                      (.join [27] [14, 15, 16, 17, 18, 19, 20, 21, 22, 23, 24, 25, 26]
                        (.ops [
                            (none, [⟨none, some 14, .p (.mv (.s 1))⟩,
                            ⟨none, some 15, .p (.mv (.s 7))⟩,
                            ⟨none, some 16, .p (.idx (.s 14) (.s 15) none 1)⟩,
                            ⟨none, some 17, .r (.ld (.s 16) none)⟩,
                            ⟨none, some 18, .p (.bin .lss (.s 17) (.c (.int .i64 0)))⟩,
                            ⟨none, some 19, .p (.mv (.s 18))⟩]),
                            (some (19, false), [⟨none, some 20, .p (.mv (.s 1))⟩,
                            ⟨none, some 21, .p (.mv (.s 7))⟩,
                            ⟨none, some 22, .p (.idx (.s 20) (.s 21) none 1)⟩,
                            ⟨none, some 23, .r (.ld (.s 22) none)⟩,
                            ⟨none, some 24, .p (.mv (.s 0))⟩,
                            ⟨none, some 25, .r (.len (.s 24) 0)⟩,
                            ⟨none, some 26, .p (.bin .geq (.s 23) (.s 25))⟩]),
                            (none, [⟨none, some 27, .p (.pick (.s 19) (.c (.bool true)) (.s 26))⟩])] (.one (.tst (.one .nil) (.one .nil))))
                        (.cond (.s 27)
                          (.seq
                            (.ops [
                                (none, [⟨none, some 4, .p (.mv (.c (.string ⟨#[]⟩)))⟩,
                                ⟨none, some 5, .p (.mv (.c (.int .i64 3)))⟩])] (.one .nil))
                            .ret)
                          .skip))
                      (.ops [
                          (none, [⟨none, some 28, .p (.mv (.s 6))⟩,
                          ⟨none, some 29, .p (.bin .add (.s 28) (.c (.string ⟨#[32]⟩)))⟩,
                          ⟨none, some 30, .p (.mv (.s 0))⟩,
                          ⟨none, some 31, .p (.mv (.s 1))⟩,
                          ⟨none, some 32, .p (.mv (.s 7))⟩,
                          ⟨none, some 33, .p (.idx (.s 31) (.s 32) none 1)⟩,
                          ⟨none, some 34, .r (.ld (.s 33) none)⟩,
                          ⟨none, some 35, .p (.idx (.s 30) (.s 34) none 1)⟩,
                          ⟨none, some 36, .r (.ld (.s 35) none)⟩,
                          ⟨none, some 37, .p (.bin .add (.s 29) (.s 36))⟩,
                          ⟨none, some 6, .p (.mv (.s 37))⟩])] (.one .nil))))
                  (.ops [
                      (none, [⟨none, some 12, .p (.mv (.s 7))⟩,
                      ⟨none, some 13, .p (.bin .add (.s 12) (.c (.int .i64 1)))⟩,
                      ⟨none, some 7, .p (.mv (.s 13))⟩])] (.one .nil)))))))
        (.seq
          (.ops [
              (none, [⟨none, some 38, .p (.mv (.s 6))⟩,
              ⟨none, some 4, .p (.mv (.s 38))⟩,
              ⟨none, some 5, .p (.mv (.c (.int .i64 0)))⟩])] (.one .nil))
          .ret))))
theorem cfn19 : cfn Tryd.prog 19 = some ⟨39, 6, d19.erase, [(.s 4, none), (.s 5, none)]⟩ := by kernel_rfl
theorem ok19 : d19.ok 39 6 = true := by kernel_rfl
noncomputable def F19 (a0 a1 : Value) (H : Heap) (nx : Nat) (k : EP) : Prop :=
  wLoop (fun tih_1 tL_2 H1 nx1 =>
    wLen a1 0 H1 fun t10_3 =>
    wBin .lss (tL_2.getD 1 undef) t10_3 fun t11_4 =>
    wIf t11_4 (
      wJoin (fun tj_5 =>
        wIdx a1 (tL_2.getD 1 undef) none 1 fun t16_7 =>
        wLd t16_7 none H1 fun t17_8 =>
        wBin .lss t17_8 (.int .i64 0) fun t18_9 =>
        wGuard false t18_9 (
          wIdx a1 (tL_2.getD 1 undef) none 1 fun t22_10 =>
          wLd t22_10 none H1 fun t23_11 =>
          wLen a0 0 H1 fun t25_12 =>
          wBin .geq t23_11 t25_12 fun t26_13 =>
          tj_5 [t26_13] H1 nx1) (
          tj_5 [(.bool true)] H1 nx1)) (fun tL_6 H2 nx2 =>
        wIf (tL_6.getD 0 undef) (
          forceV (.tuple ⟨[(.string ⟨#[]⟩), (.int .i64 3)]⟩) fun tv_14 => k tv_14 H2 nx2) (
          wBin .add (tL_2.getD 0 undef) (.string ⟨#[32]⟩) fun t29_15 =>
          wIdx a1 (tL_2.getD 1 undef) none 1 fun t33_16 =>
          wLd t33_16 none H2 fun t34_17 =>
          wIdx a0 t34_17 none 1 fun t35_18 =>
          wLd t35_18 none H2 fun t36_19 =>
          wBin .add t29_15 t36_19 fun t37_20 =>
          wBin .add (tL_2.getD 1 undef) (.int .i64 1) fun t13_21 =>
          tih_1 [t37_20, t13_21] H2 nx2))) (
      forceV (.tuple ⟨[(tL_2.getD 0 undef), (.int .i64 0)]⟩) fun tv_22 => k tv_22 H1 nx1)) [(.string ⟨#[]⟩), (.int .i64 0)] H nx
theorem eq19 (a0 a1 : Value) (H : Heap) (nx : Nat) (k : EP) : wBody Tryd.prog 39 6 d19 [(.s 4, none), (.s 5, none)] [a0, a1] H nx k = F19 a0 a1 H nx k := by kernel_rfl
theorem spec19 {a0 a1 : Value} {H : Heap} {nx : Nat} {k : EP} (h : F19 a0 a1 H nx k) : Ans Tryd.prog 19 [a0, a1] H nx k :=
  spec_of_body mixed namesOK cfn19 ok19 (by simp) ((eq19 a0 a1 H nx k).symm ▸ h)

/-! 9: ordinal/ordinalref56.Text -/
def d9 : D :=
  (.seq
    (.ops [
        (none, [⟨none, some 6, .p (.mv (.c (.string ⟨#[]⟩)))⟩,
        ⟨none, some 7, .p (.mv (.c (.int .i64 0)))⟩])] (.one .nil))
    (.seq
      (.seq
        (.ops [
            (none, [⟨none, some 11, .p (.mv (.s 0))⟩,
            ⟨none, some 12, .e (.call (.c (.func (.func 18) ⟨[]⟩ ⟨[]⟩)) [.s 11])⟩,
            ⟨none, some 8, .p (.mv (.s 12))⟩])] (.one .nil))
        (.seq
          (.ops [
              (none, [⟨none, some 13, .p (.mv (.s 8))⟩,
              ⟨none, some 14, .p (.bin .neq (.s 13) (.c (.int .i64 0)))⟩])] (.one .nil))
          (.cond (.s 14)
            (.seq
              (.ops [
                  (none, [⟨none, some 15, .p (.mv (.s 8))⟩,
                  ⟨none, some 6, .p (.mv (.c (.string ⟨#[]⟩)))⟩,
                  ⟨none, some 7, .p (.mv (.s 15))⟩])] (.one .nil))
              .ret)
            .skip)))
      (.seq
        (.join [21] [16, 17, 18, 19, 20]
          (.ops [
              (none, [⟨none, some 16, .p (.mv (.s 1))⟩,
              ⟨none, some 17, .p (.bin .lss (.s 16) (.c (.int .i64 0)))⟩,
              ⟨none, some 18, .p (.mv (.s 17))⟩]),
              (some (18, false), [⟨none, some 19, .p (.mv (.s 1))⟩,
              ⟨none, some 20, .p (.bin .gtr (.s 19) (.c (.int .i64 3)))⟩]),
              (none, [⟨none, some 21, .p (.pick (.s 18) (.c (.bool true)) (.s 20))⟩])] (.one (.tst (.one .nil) (.one .nil))))
          (.cond (.s 21)
            (.seq
              (.ops [
                  (none, [⟨none, some 6, .p (.mv (.c (.string ⟨#[]⟩)))⟩,
                  ⟨none, some 7, .p (.mv (.c (.int .i64 2)))⟩])] (.one .nil))
              .ret)
            .skip))
        (.seq
          (.ops [
              (none, [⟨none, some 23, .p (.mv (.s 0))⟩,
              ⟨none, some 24, .p (.mv (.s 2))⟩,
              ⟨none, some 25, .e (.call (.c (.func (.func 19) ⟨[]⟩ ⟨[]⟩)) [.s 23, .s 24])⟩,
              ⟨none, some 22, .p (.mv (.s 25))⟩,
              ⟨none, some 26, .p (.ext (.s 22) 0)⟩,
              ⟨none, some 27, .p (.ext (.s 22) 1)⟩,
              ⟨none, some 9, .p (.mv (.s 26))⟩,
              ⟨none, some 10, .p (.mv (.s 27))⟩])] (.one .nil))
          (.seq
            (.seq
              (.ops [
                  (none, [⟨none, some 28, .p (.mv (.s 10))⟩,
                  ⟨none, some 29, .p (.bin .neq (.s 28) (.c (.int .i64 0)))⟩])] (.one .nil))
              (.cond (.s 29)
                (.seq
                  (.ops [
                      (none, [⟨none, some 30, .p (.mv (.s 10))⟩,
                      ⟨none, some 6, .p (.mv (.c (.string ⟨#[]⟩)))⟩,
                      ⟨none, some 7, .p (.mv (.s 30))⟩])] (.one .nil))
                  .ret)
                .skip))
            (.seq
              (.ops [
                  (none, [⟨none, some 31, .e (.call (.c (.func (.func 20) ⟨[]⟩ ⟨[]⟩)) [])⟩,
                  ⟨none, some 32, .p (.mv (.s 1))⟩,
                  ⟨none, some 33, .p (.idx (.s 31) (.s 32) none 1)⟩,
                  ⟨none, some 34, .r (.ld (.s 33) none)⟩,
                  ⟨none, some 35, .p (.mv (.s 9))⟩,
                  ⟨none, some 36, .p (.bin .add (.s 34) (.s 35))⟩,
                  ⟨none, some 6, .p (.mv (.s 36))⟩,
                  ⟨none, some 7, .p (.mv (.c (.int .i64 0)))⟩])] (.one .nil))
              .ret))))))
theorem cfn9 : cfn Tryd.prog 9 = some ⟨37, 6, d9.erase, [(.s 6, none), (.s 7, none)]⟩ := by kernel_rfl
theorem ok9 : d9.ok 37 6 = true := by kernel_rfl
noncomputable def F9 (a0 a1 a2 : Value) (H : Heap) (nx : Nat) (k : EP) : Prop :=
  wCall Tryd.prog 18 [a0] H nx fun t12_1 H1 nx1 =>
  wBin .neq t12_1 (.int .i64 0) fun t14_2 =>
  wIf t14_2 (
    forceV (.tuple ⟨[(.string ⟨#[]⟩), t12_1]⟩) fun tv_3 => k tv_3 H1 nx1) (
    wJoin (fun tj_4 =>
      wBin .lss a1 (.int .i64 0) fun t17_6 =>
      wGuard false t17_6 (
        wBin .gtr a1 (.int .i64 3) fun t20_7 =>
        tj_4 [t20_7] H1 nx1) (
        tj_4 [(.bool true)] H1 nx1)) (fun tL_5 H2 nx2 =>
      wIf (tL_5.getD 0 undef) (
        forceV (.tuple ⟨[(.string ⟨#[]⟩), (.int .i64 2)]⟩) fun tv_8 => k tv_8 H2 nx2) (
        wCall Tryd.prog 19 [a0, a2] H2 nx2 fun t25_9 H3 nx3 =>
        wExt t25_9 0 fun t26_10 =>
        wExt t25_9 1 fun t27_11 =>
        wBin .neq t27_11 (.int .i64 0) fun t29_12 =>
        wIf t29_12 (
          forceV (.tuple ⟨[(.string ⟨#[]⟩), t27_11]⟩) fun tv_13 => k tv_13 H3 nx3) (
          wCall Tryd.prog 20 [] H3 nx3 fun t31_14 H4 nx4 =>
          wIdx t31_14 a1 none 1 fun t33_15 =>
          wLd t33_15 none H4 fun t34_16 =>
          wBin .add t34_16 t26_10 fun t36_17 =>
          forceV (.tuple ⟨[t36_17, (.int .i64 0)]⟩) fun tv_18 => k tv_18 H4 nx4))))
theorem eq9 (a0 a1 a2 : Value) (H : Heap) (nx : Nat) (k : EP) : wBody Tryd.prog 37 6 d9 [(.s 6, none), (.s 7, none)] [a0, a1, a2] H nx k = F9 a0 a1 a2 H nx k := by kernel_rfl
theorem spec9 {a0 a1 a2 : Value} {H : Heap} {nx : Nat} {k : EP} (h : F9 a0 a1 a2 H nx k) : Ans Tryd.prog 9 [a0, a1, a2] H nx k :=
  spec_of_body mixed namesOK cfn9 ok9 (by simp) ((eq9 a0 a1 a2 H nx k).symm ▸ h)

/-! 8: ordinal/explain.Verdict -/
def d8 : D :=
  (.seq
    (.ops [
        (none, [⟨none, some 3, .a (.box (.s 1))⟩,
        ⟨none, some 4, .p (.mv (.c (.string ⟨#[]⟩)))⟩,
        ⟨none, some 5, .p (.mv (.c (.int .i64 0)))⟩])] (.one .nil))
    (.seq
      (.seq
        (.ops [
            (none, [⟨none, some 11, .p (.mv (.s 0))⟩,
            ⟨none, some 12, .e (.call (.c (.func (.func 14) ⟨[]⟩ ⟨[]⟩)) [.s 11])⟩,
            ⟨none, some 6, .p (.mv (.s 12))⟩])] (.one .nil))
        (.seq
          (.ops [
              (none, [⟨none, some 13, .p (.mv (.s 6))⟩,
              ⟨none, some 14, .p (.bin .neq (.s 13) (.c (.int .i64 0)))⟩])] (.one .nil))
          (.cond (.s 14)
            (.seq
              (.ops [
                  (none, [⟨none, some 15, .p (.mv (.s 6))⟩,
                  ⟨none, some 4, .p (.mv (.c (.string ⟨#[]⟩)))⟩,
                  ⟨none, some 5, .p (.mv (.s 15))⟩])] (.one .nil))
              .ret)
            .skip)))
      (.seq
        (.ops [
            (none, [⟨none, some 16, .e (.call (.c (.func (.func 15) ⟨[]⟩ ⟨[]⟩)) [])⟩,
            ⟨none, some 7, .p (.mv (.s 16))⟩])] (.one .nil))
        (.seq
          (.join [26] [17, 18, 19, 20, 21, 22, 23, 24, 25]
            (.ops [
                (none, [⟨none, some 17, .p (.fld (.s 3) 0)⟩,
                ⟨none, some 18, .r (.ld (.s 17) none)⟩,
                ⟨none, some 19, .p (.bin .lss (.s 18) (.c (.int .i64 0)))⟩,
                ⟨none, some 20, .p (.mv (.s 19))⟩]),
                (some (20, false), [⟨none, some 21, .p (.fld (.s 3) 0)⟩,
                ⟨none, some 22, .r (.ld (.s 21) none)⟩,
                ⟨none, some 23, .p (.mv (.s 7))⟩,
                ⟨none, some 24, .r (.len (.s 23) 0)⟩,
                ⟨none, some 25, .p (.bin .geq (.s 22) (.s 24))⟩]),
                (none, [⟨none, some 26, .p (.pick (.s 20) (.c (.bool true)) (.s 25))⟩])] (.one (.tst (.one .nil) (.one .nil))))
            (.cond (.s 26)
              (.seq
                (.ops [
                    (none, [⟨none, some 4, .p (.mv (.c (.string ⟨#[]⟩)))⟩,
                    ⟨none, some 5, .p (.mv (.c (.int .i64 2)))⟩])] (.one .nil))
                .ret)
              .skip))
          (.seq
            (.ops [
                (none, [⟨none, some 27, .p (.fld (.s 3) 2)⟩,
                ⟨none, some 28, .r (.ld (.s 27) none)⟩,
                ⟨none, some 8, .p (.mv (.s 28))⟩])] (.one .nil))
            (.join [8] [29, 30, 31, 32, 33]
              (.seq
                (.ops [
                    (none, [⟨none, some 29, .p (.fld (.s 3) 0)⟩,
                    ⟨none, some 30, .r (.ld (.s 29) none)⟩,
                    ⟨none, some 31, .p (.bin .eql (.s 30) (.c (.int .i64 0)))⟩])] (.one .nil))
                (.cond (.s 31)
                  (.ops [
                      (none, [⟨none, some 32, .p (.fld (.s 3) 1)⟩,
                      ⟨none, some 33, .r (.ld (.s 32) none)⟩,
                      ⟨none, some 8, .p (.mv (.s 33))⟩])] (.one .nil))
                  .skip))
              (.seq
                (.ops [
                    (none, [⟨none, some 35, .p (.mv (.s 0))⟩,
                    ⟨none, some 36, .p (.mv (.s 8))⟩,
                    ⟨none, some 37, .e (.call (.c (.func (.func 16) ⟨[]⟩ ⟨[]⟩)) [.s 35, .s 36])⟩,
                    ⟨none, some 34, .p (.mv (.s 37))⟩,
                    ⟨none, some 38, .p (.ext (.s 34) 0)⟩,
                    ⟨none, some 39, .p (.ext (.s 34) 1)⟩,
                    ⟨none, some 9, .p (.mv (.s 38))⟩,
                    ⟨none, some 10, .p (.mv (.s 39))⟩])] (.one .nil))
                (.seq
                  (.seq
                    (.ops [
                        (none, [⟨none, some 40, .p (.mv (.s 10))⟩,
                        ⟨none, some 41, .p (.bin .neq (.s 40) (.c (.int .i64 0)))⟩])] (.one .nil))
                    (.cond (.s 41)
                      (.seq
                        (.ops [
                            (none, [⟨none, some 42, .p (.mv (.s 10))⟩,
                            ⟨none, some 4, .p (.mv (.c (.string ⟨#[]⟩)))⟩,
                            ⟨none, some 5, .p (.mv (.s 42))⟩])] (.one .nil))
                        .ret)
                      .skip))
                  (.seq
                    (.ops [
                        (none, [⟨none, some 43, .p (.mv (.s 7))⟩,
                        ⟨none, some 44, .p (.fld (.s 3) 0)⟩,
                        ⟨none, some 45, .r (.ld (.s 44) none)⟩,
                        ⟨none, some 46, .p (.idx (.s 43) (.s 45) none 1)⟩,
                        ⟨none, some 47, .r (.ld (.s 46) none)⟩,
                        ⟨none, some 48, .p (.mv (.s 9))⟩,
                        ⟨none, some 49, .e (.call (.c (.func (.func 17) ⟨[]⟩ ⟨[]⟩)) [.s 47, .s 48])⟩,
                        ⟨none, some 4, .p (.mv (.s 49))⟩,
                        ⟨none, some 5, .p (.mv (.c (.int .i64 0)))⟩])] (.one .nil))
                    .ret)))))))))
theorem cfn8 : cfn Tryd.prog 8 = some ⟨50, 6, d8.erase, [(.s 4, none), (.s 5, none)]⟩ := by kernel_rfl
theorem ok8 : d8.ok 50 6 = true := by kernel_rfl
noncomputable def F8 (a0 a1 : Value) (H : Heap) (nx : Nat) (k : EP) : Prop :=
  dBox a1 fun tc_1 => wNew (.cells tc_1 0) .ptr H nx fun t3_2 H1 nx1 =>
  wCall Tryd.prog 14 [a0] H1 nx1 fun t12_3 H2 nx2 =>
  wBin .neq t12_3 (.int .i64 0) fun t14_4 =>
  wIf t14_4 (
    forceV (.tuple ⟨[(.string ⟨#[]⟩), t12_3]⟩) fun tv_5 => k tv_5 H2 nx2) (
    wCall Tryd.prog 15 [] H2 nx2 fun t16_6 H3 nx3 =>
    wJoin (fun tj_7 =>
      wFld t3_2 0 fun t17_9 =>
      wLd t17_9 none H3 fun t18_10 =>
      wBin .lss t18_10 (.int .i64 0) fun t19_11 =>
      wGuard false t19_11 (
        wFld t3_2 0 fun t21_12 =>
        wLd t21_12 none H3 fun t22_13 =>
        wLen t16_6 0 H3 fun t24_14 =>
        wBin .geq t22_13 t24_14 fun t25_15 =>
        tj_7 [t25_15] H3 nx3) (
        tj_7 [(.bool true)] H3 nx3)) (fun tL_8 H4 nx4 =>
      wIf (tL_8.getD 0 undef) (
        forceV (.tuple ⟨[(.string ⟨#[]⟩), (.int .i64 2)]⟩) fun tv_16 => k tv_16 H4 nx4) (
        wFld t3_2 2 fun t27_17 =>
        wLd t27_17 none H4 fun t28_18 =>
        wJoin (fun tj_19 =>
          wFld t3_2 0 fun t29_21 =>
          wLd t29_21 none H4 fun t30_22 =>
          wBin .eql t30_22 (.int .i64 0) fun t31_23 =>
          wIf t31_23 (
            wFld t3_2 1 fun t32_24 =>
            wLd t32_24 none H4 fun t33_25 =>
            tj_19 [t33_25] H4 nx4) (
            tj_19 [t28_18] H4 nx4)) (fun tL_20 H5 nx5 =>
          wCall Tryd.prog 16 [a0, (tL_20.getD 0 undef)] H5 nx5 fun t37_26 H6 nx6 =>
          wExt t37_26 0 fun t38_27 =>
          wExt t37_26 1 fun t39_28 =>
          wBin .neq t39_28 (.int .i64 0) fun t41_29 =>
          wIf t41_29 (
            forceV (.tuple ⟨[(.string ⟨#[]⟩), t39_28]⟩) fun tv_30 => k tv_30 H6 nx6) (
            wFld t3_2 0 fun t44_31 =>
            wLd t44_31 none H6 fun t45_32 =>
            wIdx t16_6 t45_32 none 1 fun t46_33 =>
            wLd t46_33 none H6 fun t47_34 =>
            wCall Tryd.prog 17 [t47_34, t38_27] H6 nx6 fun t49_35 H7 nx7 =>
            forceV (.tuple ⟨[t49_35, (.int .i64 0)]⟩) fun tv_36 => k tv_36 H7 nx7)))))
theorem eq8 (a0 a1 : Value) (H : Heap) (nx : Nat) (k : EP) : wBody Tryd.prog 50 6 d8 [(.s 4, none), (.s 5, none)] [a0, a1] H nx k = F8 a0 a1 H nx k := by kernel_rfl
theorem spec8 {a0 a1 : Value} {H : Heap} {nx : Nat} {k : EP} (h : F8 a0 a1 H nx k) : Ans Tryd.prog 8 [a0, a1] H nx k :=
  spec_of_body mixed namesOK cfn8 ok8 (by simp) ((eq8 a0 a1 H nx k).symm ▸ h)

/-! 24: ordinal/explain.ParseVerdict$1 -/
def d24 : D :=
  (.seq
    (.ops [
        (none, [⟨none, some 3, .p (.mv (.c (.int .i64 0)))⟩,
        ⟨none, some 4, .p (.mv (.c (.bool false)))⟩])] (.one .nil))
    (.seq
      (.ops [
          (none, [⟨none, some 8, .r (.ld (.s 1) none)⟩,
          ⟨none, some 9, .p (.mv (.s 0))⟩,
          ⟨none, some 10, .r (.lk .string (.int .i64 0) (.s 8) (.s 9) true)⟩,
          ⟨none, some 7, .p (.mv (.s 10))⟩,
          ⟨none, some 11, .p (.ext (.s 7) 0)⟩,
          ⟨none, some 12, .p (.ext (.s 7) 1)⟩,
          ⟨none, some 5, .p (.mv (.s 11))⟩,
          ⟨none, some 6, .p (.mv (.s 12))⟩])] (.one .nil))
      (.seq
        (.ops [
            (none, [⟨none, some 13, .p (.mv (.s 5))⟩,
            ⟨none, some 14, .p (.mv (.s 6))⟩,
            ⟨none, some 3, .p (.mv (.s 13))⟩,
            ⟨none, some 4, .p (.mv (.s 14))⟩])] (.one .nil))
        .ret)))
theorem cfn24 : cfn Tryd.prog 24 = some ⟨15, 4, d24.erase, [(.s 3, none), (.s 4, none)]⟩ := by kernel_rfl
theorem ok24 : d24.ok 15 4 = true := by kernel_rfl
noncomputable def F24 (a0 a1 : Value) (H : Heap) (nx : Nat) (k : EP) : Prop :=
  wLd a1 none H fun t8_1 =>
  wLk .string (.int .i64 0) t8_1 a0 true H fun t10_2 =>
  wExt t10_2 0 fun t11_3 =>
  wExt t10_2 1 fun t12_4 =>
  forceV (.tuple ⟨[t11_3, t12_4]⟩) fun tv_5 => k tv_5 H nx
theorem eq24 (a0 a1 : Value) (H : Heap) (nx : Nat) (k : EP) : wBody Tryd.prog 15 4 d24 [(.s 3, none), (.s 4, none)] [a0, a1] H nx k = F24 a0 a1 H nx k := by kernel_rfl
theorem spec24 {a0 a1 : Value} {H : Heap} {nx : Nat} {k : EP} (h : F24 a0 a1 H nx k) : Ans Tryd.prog 24 [a0, a1] H nx k :=
  spec_of_body mixed namesOK cfn24 ok24 (by simp) ((eq24 a0 a1 H nx k).symm ▸ h)

/-! 13: slices.Equal[[]int,int] -/
def d13 : D :=
  (.seq
    (.ops [
        (none, [⟨none, some 4, .p (.mv (.c (.bool false)))⟩])] (.one .nil))
    (.seq
      (.seq
        (.ops [
            (none, [⟨none, some 6, .p (.mv (.s 0))⟩,
            ⟨none, some 7, .r (.len (.s 6) 0)⟩,
            ⟨none, some 8, .p (.mv (.s 1))⟩,
            ⟨none, some 9, .r (.len (.s 8) 0)⟩,
            ⟨none, some 10, .p (.bin .neq (.s 7) (.s 9))⟩])] (.one .nil))
        (.cond (.s 10)
          (.seq
            (.ops [
                (none, [⟨none, some 4, .p (.mv (.c (.bool false)))⟩])] (.one .nil))
            .ret)
          .skip))
      (.seq
        (.seq
          (.ops [
              (none, [⟨none, some 11, .p (.mv (.s 0))⟩,
              ⟨none, some 12, .r (.len (.s 11) 0)⟩,
              ⟨none, some 13, .p (.mv (.c (.int .i64 0)))⟩])] (.one .nil))
          (.block 0
            (.loop [13] [4, 5, 14, 15, 16, 17, 18, 19, 20, 21, 22, 23, 24, 25]
              (.seq
                (.ops [
                    (none, [⟨none, some 14, .p (.bin .lss (.s 13) (.s 12))⟩])] (.one .nil))
                (.seq
                  (.cond (.s 14)
                    .skip
                    (.exit 0))
                  (.seq
                    (.block 1
                      (.seq
                        (.ops [
                            (none, [⟨none, some 15, .p (.mv (.s 13))⟩,
                            ⟨none, some 5, .p (.mv (.s 15))⟩])] (.one .nil))
                        (.seq
                          (.draw [0, 0, 3, 7, 0, 0, 48, 112, 255] [
                              (none, [⟨none, some 16, .p (.mv (.s 0))⟩,
                              ⟨none, some 17, .p (.mv (.s 5))⟩,
                              ⟨none, some 18, .p (.idx (.s 16) (.s 17) none 1)⟩,
                              ⟨none, some 19, .r (.ld (.s 18) none)⟩,
                              ⟨none, some 20, .p (.mv (.s 1))⟩,
                              ⟨none, some 21, .p (.mv (.s 5))⟩,
                              ⟨none, some 22, .p (.idx (.s 20) (.s 21) none 1)⟩,
                              ⟨none, some 23, .r (.ld (.s 22) none)⟩,
                              ⟨none, some 24, .p (.bin .neq (.s 19) (.s 23))⟩])] (.one .nil))
                          (.cond (.s 24)
                            (.seq
                              (.ops [
                                  (none, [⟨none, some 4, .p (.mv (.c (.bool false)))⟩])] (.one .nil))
                              .ret)
                            .skip))))
                    (.ops [
                        (none, [⟨none, some 25, .p (.bin .add (.s 13) (.c (.int .i64 1)))⟩,
                        ⟨none, some 13, .p (.mv (.s 25))⟩])] (.one .nil))))))))
        (.seq
          (.ops [
              (none, [⟨none, some 4, .p (.mv (.c (.bool true)))⟩])] (.one .nil))
          .ret))))
theorem cfn13 : cfn Tryd.prog 13 = some ⟨26, 5, d13.erase, [(.s 4, none)]⟩ := by kernel_rfl
theorem ok13 : d13.ok 26 5 = true := by kernel_rfl
noncomputable def F13 (a0 a1 : Value) (H : Heap) (nx : Nat) (k : EP) : Prop :=
  wLen a0 0 H fun t7_1 =>
  wLen a1 0 H fun t9_2 =>
  wBin .neq t7_1 t9_2 fun t10_3 =>
  wIf t10_3 (
    forceV (.bool false) fun tv_4 => k tv_4 H nx) (
    wLen a0 0 H fun t12_5 =>
    wLoop (fun tih_6 tL_7 H1 nx1 =>
      wBin .lss (tL_7.getD 0 undef) t12_5 fun t14_8 =>
      wIf t14_8 (
        forceN (nx1 + 9) fun nx2 =>
        wIdx a0 (tL_7.getD 0 undef) none 1 fun t18_9 =>
        wLd t18_9 none H1 fun t19_10 =>
        wIdx a1 (tL_7.getD 0 undef) none 1 fun t22_11 =>
        wLd t22_11 none H1 fun t23_12 =>
        wBin .neq t19_10 t23_12 fun t24_13 =>
        (((((wLd t22_11 none H1 fun tq_15 => tq_15 = t23_12) ∧ True) ∧ (((wLd t18_9 none H1 fun tq_14 => tq_14 = t19_10) ∧ True) ∧ True))) ∧ (
          wIf t24_13 (
            forceV (.bool false) fun tv_16 => k tv_16 H1 nx2) (
            wBin .add (tL_7.getD 0 undef) (.int .i64 1) fun t25_17 =>
            tih_6 [t25_17] H1 nx2))) ∨ False) (
        forceV (.bool true) fun tv_18 => k tv_18 H1 nx1)) [(.int .i64 0)] H nx)
theorem eq13 (a0 a1 : Value) (H : Heap) (nx : Nat) (k : EP) : wBody Tryd.prog 26 5 d13 [(.s 4, none)] [a0, a1] H nx k = F13 a0 a1 H nx k := by kernel_rfl
theorem spec13 {a0 a1 : Value} {H : Heap} {nx : Nat} {k : EP} (h : F13 a0 a1 H nx k) : Ans Tryd.prog 13 [a0, a1] H nx k :=
  spec_of_body mixed namesOK cfn13 ok13 (by simp) ((eq13 a0 a1 H nx k).symm ▸ h)

/-! 22: slices.Index[[]string,string] -/
def d22 : D :=
  (.seq
    (.ops [
        (none, [⟨none, some 4, .p (.mv (.c (.int .i64 0)))⟩])] (.one .nil))
    (.seq
      (.seq
        (.ops [
            (none, [⟨none, some 6, .p (.mv (.s 0))⟩,
            ⟨none, some 7, .r (.len (.s 6) 0)⟩,
            ⟨none, some 8, .p (.mv (.c (.int .i64 0)))⟩])] (.one .nil))
        (.block 0
          (.loop [8] [4, 5, 9, 10, 11, 12, 13, 14, 15, 16, 17, 18]
            (.seq
              (.ops [
                  (none, [⟨none, some 9, .p (.bin .lss (.s 8) (.s 7))⟩])] (.one .nil))
              (.seq
                (.cond (.s 9)
                  .skip
                  (.exit 0))
                (.seq
                  (.block 1
                    (.seq
                      (.ops [
                          (none, [⟨none, some 10, .p (.mv (.s 8))⟩,
                          ⟨none, some 5, .p (.mv (.s 10))⟩])] (.one .nil))
                      (.seq
                        (.ops [
                            (none, [⟨none, some 11, .p (.mv (.s 1))⟩,
                            ⟨none, some 12, .p (.mv (.s 0))⟩,
                            ⟨none, some 13, .p (.mv (.s 5))⟩,
                            ⟨none, some 14, .p (.idx (.s 12) (.s 13) none 1)⟩,
                            ⟨none, some 15, .r (.ld (.s 14) none)⟩,
                            ⟨none, some 16, .p (.bin .eql (.s 11) (.s 15))⟩])] (.one .nil))
                        (.cond (.s 16)
                          (.seq
                            (.ops [
                                (none, [⟨none, some 17, .p (.mv (.s 5))⟩,
                                ⟨none, some 4, .p (.mv (.s 17))⟩])] (.one .nil))
                            .ret)
                          .skip))))
                  (.ops [
                      (none, [⟨none, some 18, .p (.bin .add (.s 8) (.c (.int .i64 1)))⟩,
                      ⟨none, some 8, .p (.mv (.s 18))⟩])] (.one .nil))))))))
      (.seq
        (.ops [
            (none, [⟨none, some 4, .p (.mv (.c (.int .i64 (-1))))⟩])] (.one .nil))
        .ret)))
theorem cfn22 : cfn Tryd.prog 22 = some ⟨19, 5, d22.erase, [(.s 4, none)]⟩ := by kernel_rfl
theorem ok22 : d22.ok 19 5 = true := by kernel_rfl
noncomputable def F22 (a0 a1 : Value) (H : Heap) (nx : Nat) (k : EP) : Prop :=
  wLen a0 0 H fun t7_1 =>
  wLoop (fun tih_2 tL_3 H1 nx1 =>
    wBin .lss (tL_3.getD 0 undef) t7_1 fun t9_4 =>
    wIf t9_4 (
      wIdx a0 (tL_3.getD 0 undef) none 1 fun t14_5 =>
      wLd t14_5 none H1 fun t15_6 =>
      wBin .eql a1 t15_6 fun t16_7 =>
      wIf t16_7 (
        forceV (tL_3.getD 0 undef) fun tv_8 => k tv_8 H1 nx1) (
        wBin .add (tL_3.getD 0 undef) (.int .i64 1) fun t18_9 =>
        tih_2 [t18_9] H1 nx1)) (
      forceV (.int .i64 (-1)) fun tv_10 => k tv_10 H1 nx1)) [(.int .i64 0)] H nx
theorem eq22 (a0 a1 : Value) (H : Heap) (nx : Nat) (k : EP) : wBody Tryd.prog 19 5 d22 [(.s 4, none)] [a0, a1] H nx k = F22 a0 a1 H nx k := by kernel_rfl
theorem spec22 {a0 a1 : Value} {H : Heap} {nx : Nat} {k : EP} (h : F22 a0 a1 H nx k) : Ans Tryd.prog 22 [a0, a1] H nx k :=
  spec_of_body mixed namesOK cfn22 ok22 (by simp) ((eq22 a0 a1 H nx k).symm ▸ h)

/-! 23: slices.Contains[[]string,string] -/
def d23 : D :=
  (.seq
    (.ops [
        (none, [⟨none, some 4, .p (.mv (.c (.bool false)))⟩])] (.one .nil))
    (.seq
      (.ops [
          (none, [⟨none, some 5, .p (.mv (.s 0))⟩,
          ⟨none, some 6, .p (.mv (.s 1))⟩,
          ⟨none, some 7, .e (.call (.c (.func (.func 22) ⟨[]⟩ ⟨[]⟩)) [.s 5, .s 6])⟩,
          ⟨none, some 8, .p (.bin .geq (.s 7) (.c (.int .i64 0)))⟩,
          ⟨none, some 4, .p (.mv (.s 8))⟩])] (.one .nil))
      .ret))
theorem cfn23 : cfn Tryd.prog 23 = some ⟨9, 4, d23.erase, [(.s 4, none)]⟩ := by kernel_rfl
theorem ok23 : d23.ok 9 4 = true := by kernel_rfl
noncomputable def F23 (a0 a1 : Value) (H : Heap) (nx : Nat) (k : EP) : Prop :=
  wCall Tryd.prog 22 [a0, a1] H nx fun t7_1 H1 nx1 =>
  wBin .geq t7_1 (.int .i64 0) fun t8_2 =>
  forceV t8_2 fun tv_3 => k tv_3 H1 nx1
theorem eq23 (a0 a1 : Value) (H : Heap) (nx : Nat) (k : EP) : wBody Tryd.prog 9 4 d23 [(.s 4, none)] [a0, a1] H nx k = F23 a0 a1 H nx k := by kernel_rfl
theorem spec23 {a0 a1 : Value} {H : Heap} {nx : Nat} {k : EP} (h : F23 a0 a1 H nx k) : Ans Tryd.prog 23 [a0, a1] H nx k :=
  spec_of_body mixed namesOK cfn23 ok23 (by simp) ((eq23 a0 a1 H nx k).symm ▸ h)

/-! 25: ordinal/ordinalref56.split -/
def d25 : D :=
  (.seq
    (.ops [
        (none, [⟨none, some 2, .p (.mv (.c (.slice none 0 0)))⟩])] (.one .nil))
    (.seq
      (.ops [
          (none, [⟨none, some 3, .p (.mv (.c (.slice none 0 0)))⟩])] (.one .nil))
      (.seq
        (.ops [
            (none, [⟨none, some 4, .p (.mv (.c (.int .i64 0)))⟩])] (.one .nil))
        (.seq
          (.seq
            (.ops [
                (none, [⟨none, some 5, .p (.mv (.c (.int .i64 0)))⟩])] (.one .nil))
            (.block 0
              (.loop [3, 4, 5] [6, 7, 8, 9, 10, 11, 12, 13, 14, 15, 16, 17, 18, 19, 20, 21, 22, 23, 24, 25, 26, 27, 28, 29, 30]
                (.seq
                  (.seq
                    (.ops [
                        (none, [⟨none, some 6, .p (.mv (.s 5))⟩,
                        ⟨none, some 7, .p (.mv (.s 0))⟩,
                        ⟨none, some 8, .r (.len (.s 7) 1)⟩,
                        ⟨none, some 9, .p (.bin .leq (.s 6) (.s 8))⟩])] (.one .nil))
                    (.cond (.s 9)
                      .skip
                      (.exit 0)))
                  (.join [3, 4] [12, 13, 14, 15, 16, 17, 18, 19, 20, 21, 22, 23, 24, 25, 26, 27, 28, 29, 30]
                    (.block 1
                      (.join [21] [12, 13, 14, 15, 16, 17, 18, 19, 20]
                        (.ops [
                            (none, [⟨none, some 12, .p (.mv (.s 5))⟩,
                            ⟨none, some 13, .p (.mv (.s 0))⟩,
                            ⟨none, some 14, .r (.len (.s 13) 1)⟩,
                            ⟨none, some 15, .p (.bin .eql (.s 12) (.s 14))⟩,
                            ⟨none, some 16, .p (.mv (.s 15))⟩]),
                            (some (16, false), [⟨none, some 17, .p (.mv (.s 0))⟩,
                            ⟨none, some 18, .p (.mv (.s 5))⟩,
                            ⟨none, some 19, .p (.vf .sidx [.s 17, .s 18])⟩,
                            ⟨none, some 20, .p (.bin .eql (.s 19) (.c (.int .u8 32)))⟩]),
                            (none, [⟨none, some 21, .p (.pick (.s 16) (.c (.bool true)) (.s 20))⟩])] (.one (.tst (.one .nil) (.one .nil))))
                        (.cond (.s 21)
                          (.seq
                            (.ops [
                                (none, [⟨none, some 22, .p (.mv (.s 3))⟩,
                                ⟨none, some 23, .p (.mv (.s 0))⟩,
                                ⟨none, some 24, .p (.mv (.s 4))⟩,
                                ⟨none, some 25, .p (.mv (.s 5))⟩,
                                ⟨none, some 26, .p (.vf (.ssl true true) [.s 23, .s 24, .s 25])⟩,
                                ⟨none, some 27, .a (.bsl 1 1 [.string ⟨#[]⟩] [(0, .s 26)])⟩,
                                ⟨none, some 28, .e (.app (.s 22) (.s 27) 1 16)⟩,
                                ⟨none, some 3, .p (.mv (.s 28))⟩])] (.one .nil))
                            (.ops [
                                (none, [⟨none, some 29, .p (.mv (.s 5))⟩,
                                ⟨none, some 30, .p (.bin .add (.s 29) (.c (.int .i64 1)))⟩,
                                ⟨none, some 4, .p (.mv (.s 30))⟩])] (.one .nil)))
                          .skip)))
                    (.ops [
                        (none, [⟨none, some 10, .p (.mv (.s 5))⟩,
                        ⟨none, some 11, .p (.bin .add (.s 10) (.c (.int .i64 1)))⟩,
                        ⟨none, some 5, .p (.mv (.s 11))⟩])] (.one .nil)))))))
          (.seq
            (.ops [
                (none, [⟨none, some 31, .p (.mv (.s 3))⟩,
                ⟨none, some 2, .p (.mv (.s 31))⟩])] (.one .nil))
            .ret)))))
theorem cfn25 : cfn Tryd.prog 25 = some ⟨32, 6, d25.erase, [(.s 2, none)]⟩ := by kernel_rfl
theorem ok25 : d25.ok 32 6 = true := by kernel_rfl
noncomputable def F25 (a0 : Value) (H : Heap) (nx : Nat) (k : EP) : Prop :=
  wLoop (fun tih_1 tL_2 H1 nx1 =>
    wLen a0 1 H1 fun t8_3 =>
    wBin .leq (tL_2.getD 2 undef) t8_3 fun t9_4 =>
    wIf t9_4 (
      wJoin (fun tj_5 =>
        wJoin (fun tj_7 =>
          wLen a0 1 H1 fun t14_9 =>
          wBin .eql (tL_2.getD 2 undef) t14_9 fun t15_10 =>
          wGuard false t15_10 (
            wVf .sidx [a0, (tL_2.getD 2 undef)] fun t19_11 =>
            wBin .eql t19_11 (.int .u8 32) fun t20_12 =>
            tj_7 [t20_12] H1 nx1) (
            tj_7 [(.bool true)] H1 nx1)) (fun tL_8 H3 nx3 =>
          wIf (tL_8.getD 0 undef) (
            wVf (.ssl true true) [a0, (tL_2.getD 1 undef), (tL_2.getD 2 undef)] fun t26_13 =>
            dBsl 1 1 [.string ⟨#[]⟩] [(0, t26_13)] fun tc_14 => wNew (.cells tc_14 0) (.slice 1 1) H3 nx3 fun t27_15 H4 nx4 =>
            wApp (tL_2.getD 0 undef) t27_15 1 16 H4 nx4 fun t28_16 H5 nx5 =>
            wBin .add (tL_2.getD 2 undef) (.int .i64 1) fun t30_17 =>
            tj_5 [t28_16, t30_17] H5 nx5) (
            tj_5 [(tL_2.getD 0 undef), (tL_2.getD 1 undef)] H3 nx3))) (fun tL_6 H2 nx2 =>
        wBin .add (tL_2.getD 2 undef) (.int .i64 1) fun t11_18 =>
        tih_1 [(tL_6.getD 0 undef), (tL_6.getD 1 undef), t11_18] H2 nx2)) (
      forceV (tL_2.getD 0 undef) fun tv_19 => k tv_19 H1 nx1)) [(.slice none 0 0), (.int .i64 0), (.int .i64 0)] H nx
theorem eq25 (a0 : Value) (H : Heap) (nx : Nat) (k : EP) : wBody Tryd.prog 32 6 d25 [(.s 2, none)] [a0] H nx k = F25 a0 H nx k := by kernel_rfl
theorem spec25 {a0 : Value} {H : Heap} {nx : Nat} {k : EP} (h : F25 a0 H nx k) : Ans Tryd.prog 25 [a0] H nx k :=
  spec_of_body mixed namesOK cfn25 ok25 (by simp) ((eq25 a0 H nx k).symm ▸ h)

/-! 26: ordinal/ordinalref56.index -/
def d26 : D :=
  (.seq
    (.ops [
        (none, [⟨none, some 4, .p (.mv (.c (.int .i64 0)))⟩])] (.one .nil))
    (.seq
      (.seq
        (.ops [
            (none, [⟨none, some 5, .p (.mv (.c (.int .i64 0)))⟩])] (.one .nil))
        (.block 0
          (.loop [5] [4, 6, 7, 8, 9, 10, 11, 12, 13, 14, 15, 16, 17, 18]
            (.seq
              (.seq
                (.ops [
                    (none, [⟨none, some 6, .p (.mv (.s 5))⟩,
                    ⟨none, some 7, .p (.mv (.s 0))⟩,
                    ⟨none, some 8, .r (.len (.s 7) 0)⟩,
                    ⟨none, some 9, .p (.bin .lss (.s 6) (.s 8))⟩])] (.one .nil))
                (.cond (.s 9)
                  .skip
                  (.exit 0)))
              (.seq
                (.block 1
                  (.seq
                    (.ops [
                        (none, [⟨none, some 12, .p (.mv (.s 0))⟩,
                        ⟨none, some 13, .p (.mv (.s 5))⟩,
                        ⟨none, some 14, .p (.idx (.s 12) (.s 13) none 1)⟩,
                        ⟨none, some 15, .r (.ld (.s 14) none)⟩,
                        ⟨none, some 16, .p (.mv (.s 1))⟩,
                        ⟨none, some 17, .p (.bin .eql (.s 15) (.s 16))⟩])] (.one .nil))
                    (.cond (.s 17)
                      (.seq
                        (.ops [
                            (none, [⟨none, some 18, .p (.mv (.s 5))⟩,
                            ⟨none, some 4, .p (.mv (.s 18))⟩])] (.one .nil))
                        .ret)
                      .skip)))
                (.ops [
                    (none, [⟨none, some 10, .p (.mv (.s 5))⟩,
                    ⟨none, some 11, .p (.bin .add (.s 10) (.c (.int .i64 1)))⟩,
                    ⟨none, some 5, .p (.mv (.s 11))⟩])] (.one .nil)))))))
      (.seq
        (.ops [
            (none, [⟨none, some 4, .p (.mv (.c (.int .i64 (-1))))⟩])] (.one .nil))
        .ret)))
theorem cfn26 : cfn Tryd.prog 26 = some ⟨19, 5, d26.erase, [(.s 4, none)]⟩ := by kernel_rfl
theorem ok26 : d26.ok 19 5 = true := by kernel_rfl
noncomputable def F26 (a0 a1 : Value) (H : Heap) (nx : Nat) (k : EP) : Prop :=
  wLoop (fun tih_1 tL_2 H1 nx1 =>
    wLen a0 0 H1 fun t8_3 =>
    wBin .lss (tL_2.getD 0 undef) t8_3 fun t9_4 =>
    wIf t9_4 (
      wIdx a0 (tL_2.getD 0 undef) none 1 fun t14_5 =>
      wLd t14_5 none H1 fun t15_6 =>
      wBin .eql t15_6 a1 fun t17_7 =>
      wIf t17_7 (
        forceV (tL_2.getD 0 undef) fun tv_8 => k tv_8 H1 nx1) (
        wBin .add (tL_2.getD 0 undef) (.int .i64 1) fun t11_9 =>
        tih_1 [t11_9] H1 nx1)) (
      forceV (.int .i64 (-1)) fun tv_10 => k tv_10 H1 nx1)) [(.int .i64 0)] H nx
theorem eq26 (a0 a1 : Value) (H : Heap) (nx : Nat) (k : EP) : wBody Tryd.prog 19 5 d26 [(.s 4, none)] [a0, a1] H nx k = F26 a0 a1 H nx k := by kernel_rfl
theorem spec26 {a0 a1 : Value} {H : Heap} {nx : Nat} {k : EP} (h : F26 a0 a1 H nx k) : Ans Tryd.prog 26 [a0, a1] H nx k :=
  spec_of_body mixed namesOK cfn26 ok26 (by simp) ((eq26 a0 a1 H nx k).symm ▸ h)

/-! 12: ordinal/ordinalref56.Parse -/
def d12 : D :=
  (.seq
    (.ops [
        (none, [⟨none, some 4, .p (.mv (.c (.int .i64 0)))⟩,
        ⟨none, some 5, .p (.mv (.c (.slice none 0 0)))⟩,
        ⟨none, some 6, .p (.mv (.c (.int .i64 0)))⟩])] (.one .nil))
    (.seq
      (.seq
        (.ops [
            (none, [⟨none, some 14, .p (.mv (.s 0))⟩,
            ⟨none, some 15, .e (.call (.c (.func (.func 18) ⟨[]⟩ ⟨[]⟩)) [.s 14])⟩,
            ⟨none, some 7, .p (.mv (.s 15))⟩])] (.one .nil))
        (.seq
          (.ops [
              (none, [⟨none, some 16, .p (.mv (.s 7))⟩,
              ⟨none, some 17, .p (.bin .neq (.s 16) (.c (.int .i64 0)))⟩])] (.one .nil))
          (.cond (.s 17)
            (.seq
              (.ops [
                  (none, [⟨none, some 18, .p (.mv (.s 7))⟩,
                  ⟨none, some 4, .p (.mv (.c (.int .i64 0)))⟩,
                  ⟨none, some 5, .p (.mv (.c (.slice none 0 0)))⟩,
                  ⟨none, some 6, .p (.mv (.s 18))⟩])] (.one .nil))
              .ret)
            .skip)))
      (.seq
        (.ops [
            (none, [⟨none, some 19, .p (.mv (.s 1))⟩,
            ⟨none, some 20, .e (.call (.c (.func (.func 25) ⟨[]⟩ ⟨[]⟩)) [.s 19])⟩,
            ⟨none, some 8, .p (.mv (.s 20))⟩])] (.one .nil))
        (.seq
          (.draw [0, 0, 2, 6, 15, 31] [
              (none, [⟨none, some 21, .e (.call (.c (.func (.func 20) ⟨[]⟩ ⟨[]⟩)) [])⟩,
              ⟨none, some 22, .p (.mv (.s 8))⟩,
              ⟨none, some 23, .p (.idx (.s 22) (.c (.int .i64 0)) none 1)⟩,
              ⟨none, some 24, .r (.ld (.s 23) none)⟩,
              ⟨none, some 25, .e (.call (.c (.func (.func 26) ⟨[]⟩ ⟨[]⟩)) [.s 21, .s 24])⟩,
              ⟨none, some 9, .p (.mv (.s 25))⟩])] (.one .nil))
          (.seq
            (.seq
              (.ops [
                  (none, [⟨none, some 26, .p (.mv (.s 9))⟩,
                  ⟨none, some 27, .p (.bin .lss (.s 26) (.c (.int .i64 0)))⟩])] (.one .nil))
              (.cond (.s 27)
                (.seq
                  (.ops [
                      (none, [⟨none, some 4, .p (.mv (.c (.int .i64 0)))⟩,
                      ⟨none, some 5, .p (.mv (.c (.slice none 0 0)))⟩,
                      ⟨none, some 6, .p (.mv (.c (.int .i64 15)))⟩])] (.one .nil))
                  .ret)
                .skip))
            (.seq
              (.seq
                (.ops [
                    (none, [⟨none, some 10, .p (.mv (.c (.int .i64 0)))⟩])] (.one .nil))
                (.block 0
                  (.loop [10] [4, 5, 6, 28, 29, 30, 31, 32, 33, 34, 35, 36, 37, 38]
                    (.seq
                      (.seq
                        (.ops [
                            (none, [⟨none, some 28, .p (.mv (.s 10))⟩,
                            ⟨none, some 29, .p (.mv (.s 8))⟩,
                            ⟨none, some 30, .r (.len (.s 29) 0)⟩,
                            ⟨none, some 31, .p (.bin .lss (.s 28) (.s 30))⟩])] (.one .nil))
                        (.cond (.s 31)
                          .skip
                          (.exit 0)))
                      (.seq
                        (.block 1
                          (.seq
                            (.ops [
                                (none, [⟨none, some 34, .p (.mv (.s 8))⟩,
                                ⟨none, some 35, .p (.mv (.s 10))⟩,
                                ⟨none, some 36, .p (.idx (.s 34) (.s 35) none 1)⟩,
                                ⟨none, some 37, .r (.ld (.s 36) none)⟩,
                                ⟨none, some 38, .p (.bin .eql (.s 37) (.c (.string ⟨#[]⟩)))⟩])] (.one .nil))
                            (.cond (.s 38)
                              (.seq
                                (.ops [
                                    (none, [⟨none, some 4, .p (.mv (.c (.int .i64 0)))⟩,
                                    ⟨none, some 5, .p (.mv (.c (.slice none 0 0)))⟩,
                                    ⟨none, some 6, .p (.mv (.c (.int .i64 15)))⟩])] (.one .nil))
                                .ret)
                              .skip)))
                        (.ops [
                            (none, [⟨none, some 32, .p (.mv (.s 10))⟩,
                            ⟨none, some 33, .p (.bin .add (.s 32) (.c (.int .i64 1)))⟩,
                            ⟨none, some 10, .p (.mv (.s 33))⟩])] (.one .nil)))))))
              (.seq
                (.ops [
                    (none, [⟨none, some 11, .p (.mv (.c (.slice none 0 0)))⟩])] (.one .nil))
                (.seq
                  (.seq
                    (.ops [
                        (none, [⟨none, some 12, .p (.mv (.c (.int .i64 1)))⟩])] (.one .nil))
                    (.block 2
                      (.loop [11, 12] [4, 5, 6, 13, 39, 40, 41, 42, 43, 44, 45, 46, 47, 48, 49, 50, 51, 52, 53, 54, 55, 56]
                        (.seq
                          (.seq
                            (.ops [
                                (none, [⟨none, some 39, .p (.mv (.s 12))⟩,
                                ⟨none, some 40, .p (.mv (.s 8))⟩,
                                ⟨none, some 41, .r (.len (.s 40) 0)⟩,
                                ⟨none, some 42, .p (.bin .lss (.s 39) (.s 41))⟩])] (.one .nil))
                            (.cond (.s 42)
                              .skip
                              (.exit 2)))
                          (.seq
                            (.block 3
                              (.seq
                                (.ops [
                                    (none, [⟨none, some 45, .p (.mv (.s 0))⟩,
                                    ⟨none, some 46, .p (.mv (.s 8))⟩,
                                    ⟨none, some 47, .p (.mv (.s 12))⟩,
                                    ⟨none, some 48, .p (.idx (.s 46) (.s 47) none 1)⟩,
                                    ⟨none, some 49, .r (.ld (.s 48) none)⟩,
                                    ⟨none, some 50, .e (.call (.c (.func (.func 26) ⟨[]⟩ ⟨[]⟩)) [.s 45, .s 49])⟩,
                                    ⟨none, some 13, .p (.mv (.s 50))⟩])] (.one .nil))
                                (.seq
                                  (.seq
                                    (.ops [
                                        (none, [⟨none, some 51, .p (.mv (.s 13))⟩,
                                        ⟨none, some 52, .p (.bin .lss (.s 51) (.c (.int .i64 0)))⟩])] (.one .nil))
                                    (.cond (.s 52)
                                      (.seq
                                        (.ops [
                                            (none, [⟨none, some 4, .p (.mv (.c (.int .i64 0)))⟩,
                                            ⟨none, some 5, .p (.mv (.c (.slice none 0 0)))⟩,
                                            ⟨none, some 6, .p (.mv (.c (.int .i64 7)))⟩])] (.one .nil))
                                        .ret)
                                      .skip))
                                  (.ops [
                                      (none, [⟨none, some 53, .p (.mv (.s 11))⟩,
                                      ⟨none, some 54, .p (.mv (.s 13))⟩,
                                      ⟨none, some 55, .a (.bsl 1 1 [.int .i64 0] [(0, .s 54)])⟩,
                                      ⟨none, some 56, .e (.app (.s 53) (.s 55) 1 8)⟩,
                                      ⟨none, some 11, .p (.mv (.s 56))⟩])] (.one .nil)))))
                            (.ops [
                                (none, [⟨none, some 43, .p (.mv (.s 12))⟩,
                                ⟨none, some 44, .p (.bin .add (.s 43) (.c (.int .i64 1)))⟩,
                                ⟨none, some 12, .p (.mv (.s 44))⟩])] (.one .nil)))))))
                  (.seq
                    (.ops [
                        (none, [⟨none, some 57, .p (.mv (.s 9))⟩,
                        ⟨none, some 58, .p (.mv (.s 11))⟩,
                        ⟨none, some 4, .p (.mv (.s 57))⟩,
                        ⟨none, some 5, .p (.mv (.s 58))⟩,
                        ⟨none, some 6, .p (.mv (.c (.int .i64 0)))⟩])] (.one .nil))
                    .ret)))))))))
theorem cfn12 : cfn Tryd.prog 12 = some ⟨59, 6, d12.erase, [(.s 4, none), (.s 5, none), (.s 6, none)]⟩ := by kernel_rfl
theorem ok12 : d12.ok 59 6 = true := by kernel_rfl
noncomputable def F12 (a0 a1 : Value) (H : Heap) (nx : Nat) (k : EP) : Prop :=
  wCall Tryd.prog 18 [a0] H nx fun t15_1 H1 nx1 =>
  wBin .neq t15_1 (.int .i64 0) fun t17_2 =>
  wIf t17_2 (
    forceV (.tuple ⟨[(.int .i64 0), (.slice none 0 0), t15_1]⟩) fun tv_3 => k tv_3 H1 nx1) (
    wCall Tryd.prog 25 [a1] H1 nx1 fun t20_4 H2 nx2 =>
    forceN (nx2 + 6) fun nx3 =>
    wCall Tryd.prog 20 [] H2 nx3 fun t21_5 H4 nx4 =>
    wIdx t20_4 (.int .i64 0) none 1 fun t23_6 =>
    wLd t23_6 none H4 fun t24_7 =>
    wCall Tryd.prog 26 [t21_5, t24_7] H4 nx4 fun t25_8 H5 nx5 =>
    (((((True) ∧ ((wLd t23_6 none H4 fun tq_9 => tq_9 = t24_7) ∧ ((wLd t23_6 none H2 fun tq_10 => tq_10 = t24_7) ∧ True))) ∧ True)) ∧ (
      wBin .lss t25_8 (.int .i64 0) fun t27_11 =>
      wIf t27_11 (
        forceV (.tuple ⟨[(.int .i64 0), (.slice none 0 0), (.int .i64 15)]⟩) fun tv_12 => k tv_12 H5 nx5) (
        wLoop (fun tih_13 tL_14 H6 nx6 =>
          wLen t20_4 0 H6 fun t30_15 =>
          wBin .lss (tL_14.getD 0 undef) t30_15 fun t31_16 =>
          wIf t31_16 (
            wIdx t20_4 (tL_14.getD 0 undef) none 1 fun t36_17 =>
            wLd t36_17 none H6 fun t37_18 =>
            wBin .eql t37_18 (.string ⟨#[]⟩) fun t38_19 =>
            wIf t38_19 (
              forceV (.tuple ⟨[(.int .i64 0), (.slice none 0 0), (.int .i64 15)]⟩) fun tv_20 => k tv_20 H6 nx6) (
              wBin .add (tL_14.getD 0 undef) (.int .i64 1) fun t33_21 =>
              tih_13 [t33_21] H6 nx6)) (
            wLoop (fun tih_22 tL_23 H7 nx7 =>
              wLen t20_4 0 H7 fun t41_24 =>
              wBin .lss (tL_23.getD 1 undef) t41_24 fun t42_25 =>
              wIf t42_25 (
                wIdx t20_4 (tL_23.getD 1 undef) none 1 fun t48_26 =>
                wLd t48_26 none H7 fun t49_27 =>
                wCall Tryd.prog 26 [a0, t49_27] H7 nx7 fun t50_28 H8 nx8 =>
                wBin .lss t50_28 (.int .i64 0) fun t52_29 =>
                wIf t52_29 (
                  forceV (.tuple ⟨[(.int .i64 0), (.slice none 0 0), (.int .i64 7)]⟩) fun tv_30 => k tv_30 H8 nx8) (
                  dBsl 1 1 [.int .i64 0] [(0, t50_28)] fun tc_31 => wNew (.cells tc_31 0) (.slice 1 1) H8 nx8 fun t55_32 H9 nx9 =>
                  wApp (tL_23.getD 0 undef) t55_32 1 8 H9 nx9 fun t56_33 H10 nx10 =>
                  wBin .add (tL_23.getD 1 undef) (.int .i64 1) fun t44_34 =>
                  tih_22 [t56_33, t44_34] H10 nx10)) (
                forceV (.tuple ⟨[t25_8, (tL_23.getD 0 undef), (.int .i64 0)]⟩) fun tv_35 => k tv_35 H7 nx7)) [(.slice none 0 0), (.int .i64 1)] H6 nx6)) [(.int .i64 0)] H5 nx5))) ∨ False)
theorem eq12 (a0 a1 : Value) (H : Heap) (nx : Nat) (k : EP) : wBody Tryd.prog 59 6 d12 [(.s 4, none), (.s 5, none), (.s 6, none)] [a0, a1] H nx k = F12 a0 a1 H nx k := by kernel_rfl
theorem spec12 {a0 a1 : Value} {H : Heap} {nx : Nat} {k : EP} (h : F12 a0 a1 H nx k) : Ans Tryd.prog 12 [a0, a1] H nx k :=
  spec_of_body mixed namesOK cfn12 ok12 (by simp) ((eq12 a0 a1 H nx k).symm ▸ h)

/-! 35: strings.genSplit -/
def d35 : D :=
  (.seq
    (.ops [
        (none, [⟨none, some 8, .p (.mv (.c (.slice none 0 0)))⟩])] (.one .nil))
    (.seq
      (.seq
        (.ops [
            (none, [⟨none, some 12, .p (.mv (.s 3))⟩,
            ⟨none, some 13, .p (.bin .eql (.s 12) (.c (.int .i64 0)))⟩])] (.one .nil))
        (.cond (.s 13)
          (.seq
            (.ops [
                (none, [⟨none, some 8, .p (.mv (.c (.slice none 0 0)))⟩])] (.one .nil))
            .ret)
          .skip))
      (.seq
        (.seq
          (.ops [
              (none, [⟨none, some 14, .p (.mv (.s 1))⟩,
              ⟨none, some 15, .p (.bin .eql (.s 14) (.c (.string ⟨#[]⟩)))⟩])] (.one .nil))
          (.cond (.s 15)
            (.seq
              (.ops [
                  (none, [⟨none, some 16, .p (.mv (.s 0))⟩,
                  ⟨none, some 17, .p (.mv (.s 3))⟩,
                  ⟨none, some 18, .e (.call (.c (.func (.func 45) ⟨[]⟩ ⟨[]⟩)) [.s 16, .s 17])⟩,
                  ⟨none, some 8, .p (.mv (.s 18))⟩])] (.one .nil))
              .ret)
            .skip))
        (.join [3] [19, 20, 21, 22, 23, 24]
          (.seq
            (.ops [
                (none, [⟨none, some 19, .p (.mv (.s 3))⟩,
                ⟨none, some 20, .p (.bin .lss (.s 19) (.c (.int .i64 0)))⟩])] (.one .nil))
            (.cond (.s 20)
              (.ops [
                  (none, [⟨none, some 21, .p (.mv (.s 0))⟩,
                  ⟨none, some 22, .p (.mv (.s 1))⟩,
                  ⟨none, some 23, .e (.call (.c (.func (.func 46) ⟨[]⟩ ⟨[]⟩)) [.s 21, .s 22])⟩,
                  ⟨none, some 24, .p (.bin .add (.s 23) (.c (.int .i64 1)))⟩,
                  ⟨none, some 3, .p (.mv (.s 24))⟩])] (.one .nil))
              .skip))
          (.seq
            (.ops [
                (none, [⟨none, some 25, .p (.mv (.s 3))⟩,
                ⟨none, some 26, .p (.mv (.s 0))⟩,
                ⟨none, some 27, .r (.len (.s 26) 1)⟩,
                ⟨none, some 28, .p (.bin .add (.s 27) (.c (.int .i64 1)))⟩,
                ⟨none, some 29, .p (.vf (.mm false) [.s 25, .s 28])⟩,
                ⟨none, some 3, .p (.mv (.s 29))⟩])] (.one .nil))
            (.seq
              (.ops [
                  (none, [⟨none, some 30, .p (.mv (.s 3))⟩,
                  ⟨none, some 31, .a (.msl (.s 30) (.s 30) [.string ⟨#[]⟩])⟩,
                  ⟨none, some 9, .p (.mv (.s 31))⟩])] (.one .nil))
              (.seq
                (.ops [
                    (none, [⟨none, some 32, .p (.mv (.s 3))⟩,
                    ⟨none, some 33, .p (.bin .sub (.s 32) (.c (.int .i64 1)))⟩,
                    ⟨none, some 3, .p (.mv (.s 33))⟩])] (.one .nil))
                (.seq
                  (.ops [
                      (none, [⟨none, some 10, .p (.mv (.c (.int .i64 0)))⟩])] (.one .nil))
                  (.join [0, 10] [11, 34, 35, 36, 37, 38, 39, 40, 41, 42, 43, 44, 45, 46, 47, 48, 49, 50, 51, 52, 53, 54, 55, 56, 57]
                    (.block 0
                      (.loop [0, 10] [11, 34, 35, 36, 37, 38, 39, 40, 41, 42, 43, 44, 45, 46, 47, 48, 49, 50, 51, 52, 53, 54, 55, 56, 57]
                        (.seq
                          (.seq
                            (.ops [
                                (none, [⟨none, some 34, .p (.mv (.s 10))⟩,
                                ⟨none, some 35, .p (.mv (.s 3))⟩,
                                ⟨none, some 36, .p (.bin .lss (.s 34) (.s 35))⟩])] (.one .nil))
                            (.cond (.s 36)
                              .skip
                              (.exit 0)))
                          (.block 1
                            (.seq
                              (.ops [
                                  (none, [⟨none, some 37, .p (.mv (.s 0))⟩,
                                  ⟨none, some 38, .p (.mv (.s 1))⟩,
                                  ⟨none, some 39, .e (.call (.c (.func (.func 47) ⟨[]⟩ ⟨[]⟩)) [.s 37, .s 38])⟩,
                                  ⟨none, some 11, .p (.mv (.s 39))⟩])] (.one .nil))
                              (.seq
                                (.seq
                                  (.ops [
                                      (none, [⟨none, some 40, .p (.mv (.s 11))⟩,
                                      ⟨none, some 41, .p (.bin .lss (.s 40) (.c (.int .i64 0)))⟩])] (.one .nil))
                                  (.cond (.s 41)
                                    (.exit 0)
                                    .skip))
                                (.seq
                                  (.ops [
                                      (none, [⟨none, some 42, .p (.mv (.s 9))⟩,
                                      ⟨none, some 43, .p (.mv (.s 10))⟩,
                                      ⟨none, some 44, .p (.mv (.s 0))⟩,
                                      ⟨none, some 45, .p (.mv (.s 11))⟩,
                                      ⟨none, some 46, .p (.mv (.s 2))⟩,
                                      ⟨none, some 47, .p (.bin .add (.s 45) (.s 46))⟩,
                                      ⟨none, some 48, .p (.vf (.ssl false true) [.s 44, .s 47])⟩,
                                      ⟨none, some 49, .p (.idx (.s 42) (.s 43) none 1)⟩,
                                      ⟨none, none, .e (.st (.s 49) (.s 48) 1)⟩])] (.one .nil))
                                  (.seq
                                    (.ops [
                                        (none, [⟨none, some 50, .p (.mv (.s 0))⟩,
                                        ⟨none, some 51, .p (.mv (.s 11))⟩,
                                        ⟨none, some 52, .p (.mv (.s 1))⟩,
                                        ⟨none, some 53, .r (.len (.s 52) 1)⟩,
                                        ⟨none, some 54, .p (.bin .add (.s 51) (.s 53))⟩,
                                        ⟨none, some 55, .p (.vf (.ssl true false) [.s 50, .s 54])⟩,
                                        ⟨none, some 0, .p (.mv (.s 55))⟩])] (.one .nil))
                                    (.ops [
                                        (none, [⟨none, some 56, .p (.mv (.s 10))⟩,
                                        ⟨none, some 57, .p (.bin .add (.s 56) (.c (.int .i64 1)))⟩,
                                        ⟨none, some 10, .p (.mv (.s 57))⟩])] (.one .nil))))))))))
                    (.seq
                      (.ops [
                          (none, [⟨none, some 58, .p (.mv (.s 9))⟩,
                          ⟨none, some 59, .p (.mv (.s 10))⟩,
                          ⟨none, some 60, .p (.mv (.s 0))⟩,
                          ⟨none, some 61, .p (.idx (.s 58) (.s 59) none 1)⟩,
                          ⟨none, none, .e (.st (.s 61) (.s 60) 1)⟩])] (.one .nil))
                      (.seq
                        (.ops [
                            (none, [⟨none, some 62, .p (.mv (.s 9))⟩,
                            ⟨none, some 63, .p (.mv (.s 10))⟩,
                            ⟨none, some 64, .p (.bin .add (.s 63) (.c (.int .i64 1)))⟩,
                            ⟨none, some 65, .r (.sl (.s 62) 1 none (some (.s 64)) none)⟩,
                            ⟨none, some 8, .p (.mv (.s 65))⟩])] (.one .nil))
                        .ret)))))))))))
theorem cfn35 : cfn Tryd.prog 35 = some ⟨66, 7, d35.erase, [(.s 8, none)]⟩ := by kernel_rfl
theorem ok35 : d35.ok 66 7 = true := by kernel_rfl
noncomputable def F35 (a0 a1 a2 a3 : Value) (H : Heap) (nx : Nat) (k : EP) : Prop :=
  wBin .eql a3 (.int .i64 0) fun t13_1 =>
  wIf t13_1 (
    forceV (.slice none 0 0) fun tv_2 => k tv_2 H nx) (
    wBin .eql a1 (.string ⟨#[]⟩) fun t15_3 =>
    wIf t15_3 (
      wCall Tryd.prog 45 [a0, a3] H nx fun t18_4 H1 nx1 =>
      forceV t18_4 fun tv_5 => k tv_5 H1 nx1) (
      wJoin (fun tj_6 =>
        wBin .lss a3 (.int .i64 0) fun t20_8 =>
        wIf t20_8 (
          wCall Tryd.prog 46 [a0, a1] H nx fun t23_9 H3 nx3 =>
          wBin .add t23_9 (.int .i64 1) fun t24_10 =>
          tj_6 [t24_10] H3 nx3) (
          tj_6 [a3] H nx)) (fun tL_7 H2 nx2 =>
        wLen a0 1 H2 fun t27_11 =>
        wBin .add t27_11 (.int .i64 1) fun t28_12 =>
        wVf (.mm false) [(tL_7.getD 0 undef), t28_12] fun t29_13 =>
        dMsl t29_13 t29_13 [.string ⟨#[]⟩] fun tc_14 tl_16 tm_17 => wNew (.cells tc_14 0) (.slice tl_16 tm_17) H2 nx2 fun t31_15 H4 nx4 =>
        wBin .sub t29_13 (.int .i64 1) fun t33_18 =>
        wJoin (fun tj_19 =>
          wLoop (fun tih_21 tL_22 H6 nx6 =>
            wBin .lss (tL_22.getD 1 undef) t33_18 fun t36_23 =>
            wIf t36_23 (
              wCall Tryd.prog 47 [(tL_22.getD 0 undef), a1] H6 nx6 fun t39_24 H7 nx7 =>
              wBin .lss t39_24 (.int .i64 0) fun t41_25 =>
              wIf t41_25 (
                tj_19 [(tL_22.getD 0 undef), (tL_22.getD 1 undef)] H7 nx7) (
                wBin .add t39_24 a2 fun t47_26 =>
                wVf (.ssl false true) [(tL_22.getD 0 undef), t47_26] fun t48_27 =>
                wIdx t31_15 (tL_22.getD 1 undef) none 1 fun t49_28 =>
                wSt t49_28 t48_27 1 H7 fun H8 =>
                wLen a1 1 H8 fun t53_29 =>
                wBin .add t39_24 t53_29 fun t54_30 =>
                wVf (.ssl true false) [(tL_22.getD 0 undef), t54_30] fun t55_31 =>
                wBin .add (tL_22.getD 1 undef) (.int .i64 1) fun t57_32 =>
                tih_21 [t55_31, t57_32] H8 nx7)) (
              tj_19 [(tL_22.getD 0 undef), (tL_22.getD 1 undef)] H6 nx6)) [a0, (.int .i64 0)] H4 nx4) (fun tL_20 H5 nx5 =>
          wIdx t31_15 (tL_20.getD 1 undef) none 1 fun t61_33 =>
          wSt t61_33 (tL_20.getD 0 undef) 1 H5 fun H9 =>
          wBin .add (tL_20.getD 1 undef) (.int .i64 1) fun t64_34 =>
          wSl t31_15 1 none (some t64_34) none H9 fun t65_35 =>
          forceV t65_35 fun tv_36 => k tv_36 H9 nx5))))
theorem eq35 (a0 a1 a2 a3 : Value) (H : Heap) (nx : Nat) (k : EP) : wBody Tryd.prog 66 7 d35 [(.s 8, none)] [a0, a1, a2, a3] H nx k = F35 a0 a1 a2 a3 H nx k := by kernel_rfl
theorem spec35 {a0 a1 a2 a3 : Value} {H : Heap} {nx : Nat} {k : EP} (h : F35 a0 a1 a2 a3 H nx k) : Ans Tryd.prog 35 [a0, a1, a2, a3] H nx k :=
  spec_of_body mixed namesOK cfn35 ok35 (by simp) ((eq35 a0 a1 a2 a3 H nx k).symm ▸ h)

/-! 21: strings.Split -/
def d21 : D :=
  (.seq
    (.ops [
        (none, [⟨none, some 4, .p (.mv (.c (.slice none 0 0)))⟩])] (.one .nil))
    (.seq
      (.ops [
          (none, [⟨none, some 5, .p (.mv (.s 0))⟩,
          ⟨none, some 6, .p (.mv (.s 1))⟩,
          ⟨none, some 7, .e (.call (.c (.func (.func 35) ⟨[]⟩ ⟨[]⟩)) [.s 5, .s 6, .c (.int .i64 0), .c (.int .i64 (-1))])⟩,
          ⟨none, some 4, .p (.mv (.s 7))⟩])] (.one .nil))
      .ret))
theorem cfn21 : cfn Tryd.prog 21 = some ⟨8, 4, d21.erase, [(.s 4, none)]⟩ := by kernel_rfl
theorem ok21 : d21.ok 8 4 = true := by kernel_rfl
noncomputable def F21 (a0 a1 : Value) (H : Heap) (nx : Nat) (k : EP) : Prop :=
  wCall Tryd.prog 35 [a0, a1, (.int .i64 0), (.int .i64 (-1))] H nx fun t7_1 H1 nx1 =>
  forceV t7_1 fun tv_2 => k tv_2 H1 nx1
theorem eq21 (a0 a1 : Value) (H : Heap) (nx : Nat) (k : EP) : wBody Tryd.prog 8 4 d21 [(.s 4, none)] [a0, a1] H nx k = F21 a0 a1 H nx k := by kernel_rfl
theorem spec21 {a0 a1 : Value} {H : Heap} {nx : Nat} {k : EP} (h : F21 a0 a1 H nx k) : Ans Tryd.prog 21 [a0, a1] H nx k :=
  spec_of_body mixed namesOK cfn21 ok21 (by simp) ((eq21 a0 a1 H nx k).symm ▸ h)

end Go.Proofs.YtjpgddpobnjmkaaDoor
