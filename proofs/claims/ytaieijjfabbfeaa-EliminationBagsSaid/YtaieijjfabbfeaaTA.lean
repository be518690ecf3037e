/-
  MADE BY PROGRAM (wip/gen/gen.py): functions 14 35 51 34 15 as marked code, and their claims written out.
  MADE BY PROGRAM (wip/gen/gen.py): functions 69 50 33 as marked code, and their claims written out.
  MADE BY PROGRAM (wip/gen/gen.py): functions 16 as marked code, and their claims written out.
-/
import Derived.Test.YtaieijjfabbfeaaS10
import Derived.KernelRfl
set_option linter.unusedSimpArgs false
set_option linter.unusedVariables false
set_option linter.unusedSectionVars false
namespace Go.Proofs.Ytaieijjfabbfeaa
open Go.Clo
set_option maxRecDepth 100000
/-! 14: ordinal/ordinalref30.Perm -/
def d14 : D :=
  (.seq
    (.ops [
        (none, [⟨none, some 6, .p (.mv (.c (.bool false)))⟩])] (.one .nil))
    (.seq
      (.seq
        (.ops [
            (none, [⟨none, some 9, .p (.mv (.s 0))⟩,
            ⟨none, some 10, .r (.len (.s 9) 0)⟩,
            ⟨none, some 11, .p (.mv (.s 2))⟩,
            ⟨none, some 12, .p (.mv (.s 1))⟩,
            ⟨none, some 13, .p (.bin .sub (.s 11) (.s 12))⟩,
            ⟨none, some 14, .p (.bin .neq (.s 10) (.s 13))⟩])] (.one .nil))
        (.cond (.s 14)
          (.seq
            (.ops [
                (none, [⟨none, some 6, .p (.mv (.c (.bool false)))⟩])] (.one .nil))
            .ret)
          .skip))
      (.seq
        (.seq
          (.ops [
              (none, [⟨none, some 7, .p (.mv (.c (.int .i64 0)))⟩])] (.one .nil))
          (.block 0
            (.loop [7] [6, 8, 15, 16, 17, 18, 19, 20, 21, 22, 23, 24, 25, 26, 27, 28, 29, 30, 31, 32, 33, 34, 35, 36, 37, 38, 39, 40, 41, 42, 43, 44, 45, 46, 47, 48]
              (.seq
                (.seq
                  (.ops [
                      (none, [⟨none, some 15, .p (.mv (.s 7))⟩,
                      ⟨none, some 16, .p (.mv (.s 0))⟩,
                      ⟨none, some 17, .r (.len (.s 16) 0)⟩,
                      ⟨none, some 18, .p (.bin .lss (.s 15) (.s 17))⟩])] (.one .nil))
                  (.cond (.s 18)
                    .skip
                    (.exit 0)))
                (.seq
                  (.block 1
                    (.seq
                      (.join [34] [21, 22, 23, 24, 25, 26, 27, 28, 29, 30, 31, 32, 33]
                        (.ops [
                            (none, [⟨none, some 21, .p (.mv (.s 0))⟩,
                            ⟨none, some 22, .p (.mv (.s 7))⟩,
                            ⟨none, some 23, .p (.idx (.s 21) (.s 22) none 1)⟩,
                            ⟨none, some 24, .r (.ld (.s 23) none)⟩,
                            ⟨none, some 25, .p (.mv (.s 1))⟩,
                            ⟨none, some 26, .p (.bin .lss (.s 24) (.s 25))⟩,
                            ⟨none, some 27, .p (.mv (.s 26))⟩]),
                            (some (27, false), [⟨none, some 28, .p (.mv (.s 0))⟩,
                            ⟨none, some 29, .p (.mv (.s 7))⟩,
                            ⟨none, some 30, .p (.idx (.s 28) (.s 29) none 1)⟩,
                            ⟨none, some 31, .r (.ld (.s 30) none)⟩,
                            ⟨none, some 32, .p (.mv (.s 2))⟩,
                            ⟨none, some 33, .p (.bin .geq (.s 31) (.s 32))⟩]),
                            (none, [⟨none, some 34, .p (.pick (.s 27) (.c (.bool true)) (.s 33))⟩])] (.one (.tst (.one .nil) (.one .nil))))
                        (.cond (.s 34)
                          (.seq
                            (.ops [
                                (none, [⟨none, some 6, .p (.mv (.c (.bool false)))⟩])] (.one .nil))
                            .ret)
                          .skip))
                      (.seq
                        (.ops [
                            (none, [⟨none, some 8, .p (.mv (.c (.int .i64 0)))⟩])] (.one .nil))
                        (.block 2
                          (.loop [8] [6, 35, 36, 37, 38, 39, 40, 41, 42, 43, 44, 45, 46, 47, 48]
                            (.seq
                              (.seq
                                (.ops [
                                    (none, [⟨none, some 35, .p (.mv (.s 8))⟩,
                                    ⟨none, some 36, .p (.mv (.s 7))⟩,
                                    ⟨none, some 37, .p (.bin .lss (.s 35) (.s 36))⟩])] (.one .nil))
                                (.cond (.s 37)
                                  .skip
                                  (.exit 2)))
                              (.seq
                                (.block 3
                                  (.seq
                                    (.draw [0, 0, 3, 7, 0, 0, 48, 112, 255] [
                                        (none, [⟨none, some 40, .p (.mv (.s 0))⟩,
                                        ⟨none, some 41, .p (.mv (.s 8))⟩,
                                        ⟨none, some 42, .p (.idx (.s 40) (.s 41) none 1)⟩,
                                        ⟨none, some 43, .r (.ld (.s 42) none)⟩,
                                        ⟨none, some 44, .p (.mv (.s 0))⟩,
                                        ⟨none, some 45, .p (.mv (.s 7))⟩,
                                        ⟨none, some 46, .p (.idx (.s 44) (.s 45) none 1)⟩,
                                        ⟨none, some 47, .r (.ld (.s 46) none)⟩,
                                        ⟨none, some 48, .p (.bin .eql (.s 43) (.s 47))⟩])] (.one .nil))
                                    (.cond (.s 48)
                                      (.seq
                                        (.ops [
                                            (none, [⟨none, some 6, .p (.mv (.c (.bool false)))⟩])] (.one .nil))
                                        .ret)
                                      .skip)))
                                (.ops [
                                    (none, [⟨none, some 38, .p (.mv (.s 8))⟩,
                                    ⟨none, some 39, .p (.bin .add (.s 38) (.c (.int .i64 1)))⟩,
                                    ⟨none, some 8, .p (.mv (.s 39))⟩])] (.one .nil)))))))))
                  (.ops [
                      (none, [⟨none, some 19, .p (.mv (.s 7))⟩,
                      ⟨none, some 20, .p (.bin .add (.s 19) (.c (.int .i64 1)))⟩,
                      ⟨none, some 7, .p (.mv (.s 20))⟩])] (.one .nil)))))))
        (.seq
          (.ops [
              (none, [⟨none, some 6, .p (.mv (.c (.bool true)))⟩])] (.one .nil))
          .ret))))
theorem cfn14 : cfn Try.prog 14 = some ⟨49, 6, d14.erase, [(.s 6, none)]⟩ := by kernel_rfl
theorem ok14 : d14.ok 49 6 = true := by kernel_rfl
noncomputable def F14 (a0 a1 a2 : Value) (H : Heap) (nx : Nat) (k : EP) : Prop :=
  wLen a0 0 H fun t10_1 =>
  wBin .sub a2 a1 fun t13_2 =>
  wBin .neq t10_1 t13_2 fun t14_3 =>
  wIf t14_3 (
    forceV (.bool false) fun tv_4 => k tv_4 H nx) (
    wLoop (fun tih_5 tL_6 H1 nx1 =>
      wLen a0 0 H1 fun t17_7 =>
      wBin .lss (tL_6.getD 0 undef) t17_7 fun t18_8 =>
      wIf t18_8 (
        wJoin (fun tj_9 =>
          wIdx a0 (tL_6.getD 0 undef) none 1 fun t23_11 =>
          wLd t23_11 none H1 fun t24_12 =>
          wBin .lss t24_12 a1 fun t26_13 =>
          wGuard false t26_13 (
            wIdx a0 (tL_6.getD 0 undef) none 1 fun t30_14 =>
            wLd t30_14 none H1 fun t31_15 =>
            wBin .geq t31_15 a2 fun t33_16 =>
            tj_9 [t33_16] H1 nx1) (
            tj_9 [(.bool true)] H1 nx1)) (fun tL_10 H2 nx2 =>
          wIf (tL_10.getD 0 undef) (
            forceV (.bool false) fun tv_17 => k tv_17 H2 nx2) (
            wLoop (fun tih_18 tL_19 H3 nx3 =>
              wBin .lss (tL_19.getD 0 undef) (tL_6.getD 0 undef) fun t37_20 =>
              wIf t37_20 (
                forceN (nx3 + 9) fun nx4 =>
                wIdx a0 (tL_19.getD 0 undef) none 1 fun t42_21 =>
                wLd t42_21 none H3 fun t43_22 =>
                wIdx a0 (tL_6.getD 0 undef) none 1 fun t46_23 =>
                wLd t46_23 none H3 fun t47_24 =>
                wBin .eql t43_22 t47_24 fun t48_25 =>
                (((((wLd t46_23 none H3 fun tq_27 => tq_27 = t47_24) ∧ True) ∧ (((wLd t42_21 none H3 fun tq_26 => tq_26 = t43_22) ∧ True) ∧ True))) ∧ (
                  wIf t48_25 (
                    forceV (.bool false) fun tv_28 => k tv_28 H3 nx4) (
                    wBin .add (tL_19.getD 0 undef) (.int .i64 1) fun t39_29 =>
                    tih_18 [t39_29] H3 nx4))) ∨ False) (
                wBin .add (tL_6.getD 0 undef) (.int .i64 1) fun t20_30 =>
                tih_5 [t20_30] H3 nx3)) [(.int .i64 0)] H2 nx2))) (
        forceV (.bool true) fun tv_31 => k tv_31 H1 nx1)) [(.int .i64 0)] H nx)
theorem eq14 (a0 a1 a2 : Value) (H : Heap) (nx : Nat) (k : EP) : wBody Try.prog 49 6 d14 [(.s 6, none)] [a0, a1, a2] H nx k = F14 a0 a1 a2 H nx k := by kernel_rfl
theorem spec14 {a0 a1 a2 : Value} {H : Heap} {nx : Nat} {k : EP} (h : F14 a0 a1 a2 H nx k) : Ans Try.prog 14 [a0, a1, a2] H nx k :=
  spec_of_body mixed namesOK cfn14 ok14 (by simp) ((eq14 a0 a1 a2 H nx k).symm ▸ h)

/-! 35: ordinal/ordinalref30.Order -/
def d35 : D :=
  (.seq
    (.ops [
        (none, [⟨none, some 4, .p (.mv (.c (.slice none 0 0)))⟩])] (.one .nil))
    (.seq
      (.ops [
          (none, [⟨none, some 5, .p (.mv (.c (.slice none 0 0)))⟩])] (.one .nil))
      (.seq
        (.ops [
            (none, [⟨none, some 7, .p (.mv (.s 5))⟩,
            ⟨none, some 8, .p (.mv (.s 1))⟩,
            ⟨none, some 9, .e (.app (.s 7) (.s 8) 1 8)⟩,
            ⟨none, some 5, .p (.mv (.s 9))⟩])] (.one .nil))
        (.seq
          (.seq
            (.ops [
                (none, [⟨none, some 10, .p (.mv (.s 0))⟩,
                ⟨none, some 11, .p (.bin .sub (.s 10) (.c (.int .i64 1)))⟩,
                ⟨none, some 6, .p (.mv (.s 11))⟩])] (.one .nil))
            (.block 0
              (.loop [5, 6] [12, 13, 14, 15, 16, 17, 18, 19]
                (.seq
                  (.seq
                    (.ops [
                        (none, [⟨none, some 12, .p (.mv (.s 6))⟩,
                        ⟨none, some 13, .p (.bin .geq (.s 12) (.c (.int .i64 0)))⟩])] (.one .nil))
                    (.cond (.s 13)
                      .skip
                      (.exit 0)))
                  (.seq
                    (.block 1
                      (.ops [
                          (none, [⟨none, some 16, .p (.mv (.s 5))⟩,
                          ⟨none, some 17, .p (.mv (.s 6))⟩,
                          ⟨none, some 18, .a (.bsl 1 1 [.int .i64 0] [(0, .s 17)])⟩,
                          ⟨none, some 19, .e (.app (.s 16) (.s 18) 1 8)⟩,
                          ⟨none, some 5, .p (.mv (.s 19))⟩])] (.one .nil)))
                    (.ops [
                        (none, [⟨none, some 14, .p (.mv (.s 6))⟩,
                        ⟨none, some 15, .p (.bin .sub (.s 14) (.c (.int .i64 1)))⟩,
                        ⟨none, some 6, .p (.mv (.s 15))⟩])] (.one .nil)))))))
          (.seq
            (.ops [
                (none, [⟨none, some 20, .p (.mv (.s 5))⟩,
                ⟨none, some 4, .p (.mv (.s 20))⟩])] (.one .nil))
            .ret)))))
theorem cfn35 : cfn Try.prog 35 = some ⟨21, 5, d35.erase, [(.s 4, none)]⟩ := by kernel_rfl
theorem ok35 : d35.ok 21 5 = true := by kernel_rfl
noncomputable def F35 (a0 a1 : Value) (H : Heap) (nx : Nat) (k : EP) : Prop :=
  wApp (.slice none 0 0) a1 1 8 H nx fun t9_1 H1 nx1 =>
  wBin .sub a0 (.int .i64 1) fun t11_2 =>
  wLoop (fun tih_3 tL_4 H2 nx2 =>
    wBin .geq (tL_4.getD 1 undef) (.int .i64 0) fun t13_5 =>
    wIf t13_5 (
      dBsl 1 1 [.int .i64 0] [(0, (tL_4.getD 1 undef))] fun tc_6 => wNew (.cells tc_6 0) (.slice 1 1) H2 nx2 fun t18_7 H3 nx3 =>
      wApp (tL_4.getD 0 undef) t18_7 1 8 H3 nx3 fun t19_8 H4 nx4 =>
      wBin .sub (tL_4.getD 1 undef) (.int .i64 1) fun t15_9 =>
      tih_3 [t19_8, t15_9] H4 nx4) (
      forceV (tL_4.getD 0 undef) fun tv_10 => k tv_10 H2 nx2)) [t9_1, t11_2] H1 nx1
theorem eq35 (a0 a1 : Value) (H : Heap) (nx : Nat) (k : EP) : wBody Try.prog 21 5 d35 [(.s 4, none)] [a0, a1] H nx k = F35 a0 a1 H nx k := by kernel_rfl
theorem spec35 {a0 a1 : Value} {H : Heap} {nx : Nat} {k : EP} (h : F35 a0 a1 H nx k) : Ans Try.prog 35 [a0, a1] H nx k :=
  spec_of_body mixed namesOK cfn35 ok35 (by simp) ((eq35 a0 a1 H nx k).symm ▸ h)

/-! 51: ordinal/ordinalref26.Adjacent -/
def d51 : D :=
  (.seq
    (.ops [
        (none, [⟨none, some 3, .a (.box (.s 0))⟩,
        ⟨none, some 6, .p (.mv (.c (.bool false)))⟩])] (.one .nil))
    (.seq
      (.seq
        (.ops [
            (none, [⟨none, some 7, .p (.mv (.c (.int .i64 0)))⟩])] (.one .nil))
        (.block 0
          (.loop [7] [6, 8, 9, 10, 11, 12, 13, 14, 15, 16, 17, 18, 19, 20, 21, 22, 23, 24, 25, 26, 27, 28, 29, 30, 31, 32, 33, 34, 35]
            (.seq
              (.seq
                (.ops [
                    (none, [⟨none, some 8, .p (.mv (.s 7))⟩,
                    ⟨none, some 9, .p (.fld (.s 3) 1)⟩,
                    ⟨none, some 10, .r (.ld (.s 9) none)⟩,
                    ⟨none, some 11, .r (.len (.s 10) 0)⟩,
                    ⟨none, some 12, .p (.bin .lss (.s 8) (.s 11))⟩])] (.one .nil))
                (.cond (.s 12)
                  .skip
                  (.exit 0)))
              (.seq
                (.block 1
                  (.join [35] [15, 16, 17, 18, 19, 20, 21, 22, 23, 24, 25, 26, 27, 28, 29, 30, 31, 32, 33, 34]
                    (.ops [
                        (none, [⟨none, some 15, .p (.mv (.s 1))⟩,
                        ⟨none, some 16, .p (.mv (.s 2))⟩,
                        ⟨none, some 17, .p (.bin .neq (.s 15) (.s 16))⟩,
                        ⟨none, some 18, .p (.mv (.s 17))⟩]),
                        (some (18, true), [⟨none, some 19, .p (.fld (.s 3) 1)⟩,
                        ⟨none, some 20, .r (.ld (.s 19) none)⟩,
                        ⟨none, some 21, .p (.mv (.s 7))⟩,
                        ⟨none, some 22, .p (.idx (.s 20) (.s 21) none 1)⟩,
                        ⟨none, some 23, .r (.ld (.s 22) none)⟩,
                        ⟨none, some 24, .p (.mv (.s 1))⟩,
                        ⟨none, some 25, .e (.call (.c (.func (.func 29) ⟨[]⟩ ⟨[]⟩)) [.s 23, .s 24])⟩]),
                        (none, [⟨none, some 26, .p (.pick (.s 18) (.s 25) (.c (.bool false)))⟩,
                        ⟨none, some 27, .p (.mv (.s 26))⟩]),
                        (some (27, true), [⟨none, some 28, .p (.fld (.s 3) 1)⟩,
                        ⟨none, some 29, .r (.ld (.s 28) none)⟩,
                        ⟨none, some 30, .p (.mv (.s 7))⟩,
                        ⟨none, some 31, .p (.idx (.s 29) (.s 30) none 1)⟩,
                        ⟨none, some 32, .r (.ld (.s 31) none)⟩,
                        ⟨none, some 33, .p (.mv (.s 2))⟩,
                        ⟨none, some 34, .e (.call (.c (.func (.func 29) ⟨[]⟩ ⟨[]⟩)) [.s 32, .s 33])⟩]),
                        (none, [⟨none, some 35, .p (.pick (.s 27) (.s 34) (.c (.bool false)))⟩])] (.one (.tst (.one (.tst (.one .nil) (.one .nil))) (.one (.one (.one .nil))))))
                    (.cond (.s 35)
                      (.seq
                        (.ops [
                            (none, [⟨none, some 6, .p (.mv (.c (.bool true)))⟩])] (.one .nil))
                        .ret)
                      .skip)))
                (.ops [
                    (none, [⟨none, some 13, .p (.mv (.s 7))⟩,
                    ⟨none, some 14, .p (.bin .add (.s 13) (.c (.int .i64 1)))⟩,
                    ⟨none, some 7, .p (.mv (.s 14))⟩])] (.one .nil)))))))
      (.seq
        (.ops [
            (none, [⟨none, some 6, .p (.mv (.c (.bool false)))⟩])] (.one .nil))
        .ret)))
theorem cfn51 : cfn Try.prog 51 = some ⟨36, 6, d51.erase, [(.s 6, none)]⟩ := by kernel_rfl
theorem ok51 : d51.ok 36 6 = true := by kernel_rfl
noncomputable def F51 (a0 a1 a2 : Value) (H : Heap) (nx : Nat) (k : EP) : Prop :=
  dBox a0 fun tc_1 => wNew (.cells tc_1 0) .ptr H nx fun t3_2 H1 nx1 =>
  wLoop (fun tih_3 tL_4 H2 nx2 =>
    wFld t3_2 1 fun t9_5 =>
    wLd t9_5 none H2 fun t10_6 =>
    wLen t10_6 0 H2 fun t11_7 =>
    wBin .lss (tL_4.getD 0 undef) t11_7 fun t12_8 =>
    wIf t12_8 (
      wJoin (fun tj_9 =>
        wBin .neq a1 a2 fun t17_11 =>
        wGuard true t17_11 (
          wFld t3_2 1 fun t19_12 =>
          wLd t19_12 none H2 fun t20_13 =>
          wIdx t20_13 (tL_4.getD 0 undef) none 1 fun t22_14 =>
          wLd t22_14 none H2 fun t23_15 =>
          wCall Try.prog 29 [t23_15, a1] H2 nx2 fun t25_16 H4 nx4 =>
          wGuard true t25_16 (
            wFld t3_2 1 fun t28_17 =>
            wLd t28_17 none H4 fun t29_18 =>
            wIdx t29_18 (tL_4.getD 0 undef) none 1 fun t31_19 =>
            wLd t31_19 none H4 fun t32_20 =>
            wCall Try.prog 29 [t32_20, a2] H4 nx4 fun t34_21 H5 nx5 =>
            tj_9 [t34_21] H5 nx5) (
            tj_9 [(.bool false)] H4 nx4)) (
            tj_9 [(.bool false)] H2 nx2)) (fun tL_10 H3 nx3 =>
        wIf (tL_10.getD 0 undef) (
          forceV (.bool true) fun tv_22 => k tv_22 H3 nx3) (
          wBin .add (tL_4.getD 0 undef) (.int .i64 1) fun t14_23 =>
          tih_3 [t14_23] H3 nx3))) (
      forceV (.bool false) fun tv_24 => k tv_24 H2 nx2)) [(.int .i64 0)] H1 nx1
theorem eq51 (a0 a1 a2 : Value) (H : Heap) (nx : Nat) (k : EP) : wBody Try.prog 36 6 d51 [(.s 6, none)] [a0, a1, a2] H nx k = F51 a0 a1 a2 H nx k := by kernel_rfl
theorem spec51 {a0 a1 a2 : Value} {H : Heap} {nx : Nat} {k : EP} (h : F51 a0 a1 a2 H nx k) : Ans Try.prog 51 [a0, a1, a2] H nx k :=
  spec_of_body mixed namesOK cfn51 ok51 (by simp) ((eq51 a0 a1 a2 H nx k).symm ▸ h)

/-! 34: ordinal/ordinalref26.Neighbors -/
def d34 : D :=
  (.seq
    (.ops [
        (none, [⟨none, some 2, .a (.box (.s 0))⟩,
        ⟨none, some 4, .p (.mv (.c (.int .u32 0)))⟩])] (.one .nil))
    (.seq
      (.ops [
          (none, [⟨none, some 5, .p (.mv (.c (.int .u32 0)))⟩])] (.one .nil))
      (.seq
        (.seq
          (.ops [
              (none, [⟨none, some 6, .p (.mv (.c (.int .i64 0)))⟩])] (.one .nil))
          (.block 0
            (.loop [5, 6] [7, 8, 9, 10, 11, 12, 13, 14, 15, 16, 17, 18, 19, 20]
              (.seq
                (.seq
                  (.ops [
                      (none, [⟨none, some 7, .p (.mv (.s 6))⟩,
                      ⟨none, some 8, .p (.fld (.s 2) 0)⟩,
                      ⟨none, some 9, .r (.ld (.s 8) none)⟩,
                      ⟨none, some 10, .p (.bin .lss (.s 7) (.s 9))⟩])] (.one .nil))
                  (.cond (.s 10)
                    .skip
                    (.exit 0)))
                (.join [5] [13, 14, 15, 16, 17, 18, 19, 20]
                  (.block 1
                    (.seq
                      (.ops [
                          (none, [⟨none, some 13, .r (.ld (.s 2) (some 2))⟩,
                          ⟨none, some 14, .p (.mv (.s 1))⟩,
                          ⟨none, some 15, .p (.mv (.s 6))⟩,
                          ⟨none, some 16, .e (.call (.c (.func (.func 51) ⟨[]⟩ ⟨[]⟩)) [.s 13, .s 14, .s 15])⟩])] (.one .nil))
                      (.cond (.s 16)
                        (.ops [
                            (none, [⟨none, some 17, .p (.mv (.s 5))⟩,
                            ⟨none, some 18, .p (.mv (.s 6))⟩,
                            ⟨none, some 19, .p (.bin .shl (.c (.int .u32 1)) (.s 18))⟩,
                            ⟨none, some 20, .p (.bin .add (.s 17) (.s 19))⟩,
                            ⟨none, some 5, .p (.mv (.s 20))⟩])] (.one .nil))
                        .skip)))
                  (.ops [
                      (none, [⟨none, some 11, .p (.mv (.s 6))⟩,
                      ⟨none, some 12, .p (.bin .add (.s 11) (.c (.int .i64 1)))⟩,
                      ⟨none, some 6, .p (.mv (.s 12))⟩])] (.one .nil)))))))
        (.seq
          (.ops [
              (none, [⟨none, some 21, .p (.mv (.s 5))⟩,
              ⟨none, some 4, .p (.mv (.s 21))⟩])] (.one .nil))
          .ret))))
theorem cfn34 : cfn Try.prog 34 = some ⟨22, 5, d34.erase, [(.s 4, none)]⟩ := by kernel_rfl
theorem ok34 : d34.ok 22 5 = true := by kernel_rfl
noncomputable def F34 (a0 a1 : Value) (H : Heap) (nx : Nat) (k : EP) : Prop :=
  dBox a0 fun tc_1 => wNew (.cells tc_1 0) .ptr H nx fun t2_2 H1 nx1 =>
  wLoop (fun tih_3 tL_4 H2 nx2 =>
    wFld t2_2 0 fun t8_5 =>
    wLd t8_5 none H2 fun t9_6 =>
    wBin .lss (tL_4.getD 1 undef) t9_6 fun t10_7 =>
    wIf t10_7 (
      wJoin (fun tj_8 =>
        wLd t2_2 (some 2) H2 fun t13_10 =>
        wCall Try.prog 51 [t13_10, a1, (tL_4.getD 1 undef)] H2 nx2 fun t16_11 H4 nx4 =>
        wIf t16_11 (
          wBin .shl (.int .u32 1) (tL_4.getD 1 undef) fun t19_12 =>
          wBin .add (tL_4.getD 0 undef) t19_12 fun t20_13 =>
          tj_8 [t20_13] H4 nx4) (
          tj_8 [(tL_4.getD 0 undef)] H4 nx4)) (fun tL_9 H3 nx3 =>
        wBin .add (tL_4.getD 1 undef) (.int .i64 1) fun t12_14 =>
        tih_3 [(tL_9.getD 0 undef), t12_14] H3 nx3)) (
      forceV (tL_4.getD 0 undef) fun tv_15 => k tv_15 H2 nx2)) [(.int .u32 0), (.int .i64 0)] H1 nx1
theorem eq34 (a0 a1 : Value) (H : Heap) (nx : Nat) (k : EP) : wBody Try.prog 22 5 d34 [(.s 4, none)] [a0, a1] H nx k = F34 a0 a1 H nx k := by kernel_rfl
theorem spec34 {a0 a1 : Value} {H : Heap} {nx : Nat} {k : EP} (h : F34 a0 a1 H nx k) : Ans Try.prog 34 [a0, a1] H nx k :=
  spec_of_body mixed namesOK cfn34 ok34 (by simp) ((eq34 a0 a1 H nx k).symm ▸ h)

/-! 15: slices.Equal[[]ordinal/ordinalref30.Bag,ordinal/ordinalref30.Bag] -/
def d15 : D :=
  (.seq
    (.ops [
        (none, [⟨none, some 4, .p (.mv (.c (.bool false)))⟩])] (.one .nil))
    (.seq
      (.seq
        (.ops [
            (none, [⟨none, some 6, .p (.mv (.s 0))⟩,
            ⟨none, some 7, .r (.len (.s 6) 0)⟩,
            ⟨none, some 8, .p (.mv (.s 1))⟩,
            ⟨none, some 9, .r (.len (.s 8) 0)⟩,
            ⟨none, some 10, .p (.bin .neq (.s 7) (.s 9))⟩])] (.one .nil))
        (.cond (.s 10)
          (.seq
            (.ops [
                (none, [⟨none, some 4, .p (.mv (.c (.bool false)))⟩])] (.one .nil))
            .ret)
          .skip))
      (.seq
        (.seq
          (.ops [
              (none, [⟨none, some 11, .p (.mv (.s 0))⟩,
              ⟨none, some 12, .r (.len (.s 11) 0)⟩,
              ⟨none, some 13, .p (.mv (.c (.int .i64 0)))⟩])] (.one .nil))
          (.block 0
            (.loop [13] [4, 5, 14, 15, 16, 17, 18, 19, 20, 21, 22, 23, 24, 25]
              (.seq
                (.ops [
                    (none, [⟨none, some 14, .p (.bin .lss (.s 13) (.s 12))⟩])] (.one .nil))
                (.seq
                  (.cond (.s 14)
                    .skip
                    (.exit 0))
                  (.seq
                    (.block 1
                      (.seq
                        (.ops [
                            (none, [⟨none, some 15, .p (.mv (.s 13))⟩,
                            ⟨none, some 5, .p (.mv (.s 15))⟩])] (.one .nil))
                        (.seq
                          (.draw [0, 0, 3, 7, 0, 0, 48, 112, 255] [
                              (none, [⟨none, some 16, .p (.mv (.s 0))⟩,
                              ⟨none, some 17, .p (.mv (.s 5))⟩,
                              ⟨none, some 18, .p (.idx (.s 16) (.s 17) none 3)⟩,
                              ⟨none, some 19, .r (.ld (.s 18) (some 3))⟩,
                              ⟨none, some 20, .p (.mv (.s 1))⟩,
                              ⟨none, some 21, .p (.mv (.s 5))⟩,
                              ⟨none, some 22, .p (.idx (.s 20) (.s 21) none 3)⟩,
                              ⟨none, some 23, .r (.ld (.s 22) (some 3))⟩,
                              ⟨none, some 24, .p (.vf (.eqs true [⟨0, 0⟩, ⟨1, 0⟩, ⟨2, 0⟩]) [.s 19, .s 23])⟩])] (.one .nil))
                          (.cond (.s 24)
                            (.seq
                              (.ops [
                                  (none, [⟨none, some 4, .p (.mv (.c (.bool false)))⟩])] (.one .nil))
                              .ret)
                            .skip))))
                    (.ops [
                        (none, [⟨none, some 25, .p (.bin .add (.s 13) (.c (.int .i64 1)))⟩,
                        ⟨none, some 13, .p (.mv (.s 25))⟩])] (.one .nil))))))))
        (.seq
          (.ops [
              (none, [⟨none, some 4, .p (.mv (.c (.bool true)))⟩])] (.one .nil))
          .ret))))
theorem cfn15 : cfn Try.prog 15 = some ⟨26, 5, d15.erase, [(.s 4, none)]⟩ := by kernel_rfl
theorem ok15 : d15.ok 26 5 = true := by kernel_rfl
noncomputable def F15 (a0 a1 : Value) (H : Heap) (nx : Nat) (k : EP) : Prop :=
  wLen a0 0 H fun t7_1 =>
  wLen a1 0 H fun t9_2 =>
  wBin .neq t7_1 t9_2 fun t10_3 =>
  wIf t10_3 (
    forceV (.bool false) fun tv_4 => k tv_4 H nx) (
    wLen a0 0 H fun t12_5 =>
    wLoop (fun tih_6 tL_7 H1 nx1 =>
      wBin .lss (tL_7.getD 0 undef) t12_5 fun t14_8 =>
      wIf t14_8 (
        forceN (nx1 + 9) fun nx2 =>
        wIdx a0 (tL_7.getD 0 undef) none 3 fun t18_9 =>
        wLd t18_9 (some 3) H1 fun t19_10 =>
        wIdx a1 (tL_7.getD 0 undef) none 3 fun t22_11 =>
        wLd t22_11 (some 3) H1 fun t23_12 =>
        wVf (.eqs true [⟨0, 0⟩, ⟨1, 0⟩, ⟨2, 0⟩]) [t19_10, t23_12] fun t24_13 =>
        (((((wLd t22_11 (some 3) H1 fun tq_15 => tq_15 = t23_12) ∧ True) ∧ (((wLd t18_9 (some 3) H1 fun tq_14 => tq_14 = t19_10) ∧ True) ∧ True))) ∧ (
          wIf t24_13 (
            forceV (.bool false) fun tv_16 => k tv_16 H1 nx2) (
            wBin .add (tL_7.getD 0 undef) (.int .i64 1) fun t25_17 =>
            tih_6 [t25_17] H1 nx2))) ∨ False) (
        forceV (.bool true) fun tv_18 => k tv_18 H1 nx1)) [(.int .i64 0)] H nx)
theorem eq15 (a0 a1 : Value) (H : Heap) (nx : Nat) (k : EP) : wBody Try.prog 26 5 d15 [(.s 4, none)] [a0, a1] H nx k = F15 a0 a1 H nx k := by kernel_rfl
theorem spec15 {a0 a1 : Value} {H : Heap} {nx : Nat} {k : EP} (h : F15 a0 a1 H nx k) : Ans Try.prog 15 [a0, a1] H nx k :=
  spec_of_body mixed namesOK cfn15 ok15 (by simp) ((eq15 a0 a1 H nx k).symm ▸ h)

end Go.Proofs.Ytaieijjfabbfeaa

set_option linter.unusedSimpArgs false
set_option linter.unusedVariables false
set_option linter.unusedSectionVars false
namespace Go.Proofs.Ytaieijjfabbfeaa
open Go.Clo
set_option maxRecDepth 100000
/-! 69: ordinal/hypergraph.adjacency -/
def d69 : D :=
  (.seq
    (.ops [
        (none, [⟨none, some 1, .a (.box (.s 0))⟩,
        ⟨none, some 2, .a (.alloc [.int .u32 0, .int .u32 0, .int .u32 0, .int .u32 0, .int .u32 0, .int .u32 0, .int .u32 0, .int .u32 0, .int .u32 0, .int .u32 0, .int .u32 0, .int .u32 0, .int .u32 0, .int .u32 0, .int .u32 0, .int .u32 0, .int .u32 0, .int .u32 0, .int .u32 0, .int .u32 0, .int .u32 0, .int .u32 0, .int .u32 0, .int .u32 0, .int .u32 0, .int .u32 0, .int .u32 0, .int .u32 0, .int .u32 0, .int .u32 0, .int .u32 0, .int .u32 0])⟩])] (.one .nil))
    (.seq
      (.ops [
          (none, [⟨none, some 3, .a (.alloc [.int .u32 0, .int .u32 0, .int .u32 0, .int .u32 0, .int .u32 0, .int .u32 0, .int .u32 0, .int .u32 0, .int .u32 0, .int .u32 0, .int .u32 0, .int .u32 0, .int .u32 0, .int .u32 0, .int .u32 0, .int .u32 0, .int .u32 0, .int .u32 0, .int .u32 0, .int .u32 0, .int .u32 0, .int .u32 0, .int .u32 0, .int .u32 0, .int .u32 0, .int .u32 0, .int .u32 0, .int .u32 0, .int .u32 0, .int .u32 0, .int .u32 0, .int .u32 0])⟩])] (.one .nil))
      (.seq
        (.seq
          (.ops [
              (none, [⟨none, some 7, .p (.fld (.s 1) 1)⟩,
              ⟨none, some 8, .r (.ld (.s 7) none)⟩,
              ⟨none, some 9, .r (.len (.s 8) 0)⟩,
              ⟨none, some 10, .p (.mv (.c (.int .i64 0)))⟩])] (.one .nil))
          (.block 0
            (.loop [10] [5, 6, 11, 12, 13, 14, 15, 16, 17, 18, 19, 20, 21, 22, 23, 24, 25, 26, 27, 28, 29, 30, 31, 32, 33, 34]
              (.seq
                (.ops [
                    (none, [⟨none, some 11, .p (.bin .lss (.s 10) (.s 9))⟩])] (.one .nil))
                (.seq
                  (.cond (.s 11)
                    .skip
                    (.exit 0))
                  (.seq
                    (.block 1
                      (.seq
                        (.ops [
                            (none, [⟨none, some 12, .p (.idx (.s 8) (.s 10) none 1)⟩,
                            ⟨none, some 13, .r (.ld (.s 12) none)⟩,
                            ⟨none, some 5, .p (.mv (.s 13))⟩])] (.one .nil))
                        (.seq
                          (.ops [
                              (none, [⟨none, some 14, .p (.fld (.s 1) 0)⟩,
                              ⟨none, some 15, .r (.ld (.s 14) none)⟩,
                              ⟨none, some 16, .p (.mv (.c (.int .i64 0)))⟩])] (.one .nil))
                          (.block 2
                            (.loop [16] [6, 17, 18, 19, 20, 21, 22, 23, 24, 25, 26, 27, 28, 29, 30, 31, 32, 33]
                              (.seq
                                (.ops [
                                    (none, [⟨none, some 17, .p (.bin .lss (.s 16) (.s 15))⟩])] (.one .nil))
                                (.seq
                                  (.cond (.s 17)
                                    .skip
                                    (.exit 2))
                                  (.join [] [6, 18, 19, 20, 21, 22, 23, 24, 25, 26, 27, 28, 29, 30, 31, 32]
                                    (.block 3
                                      (.seq
                                        (.ops [
                                            (none, [⟨none, some 18, .p (.mv (.s 16))⟩,
                                            ⟨none, some 6, .p (.mv (.s 18))⟩])] (.one .nil))
                                        (.seq
                                          (.ops [
                                              (none, [⟨none, some 19, .p (.mv (.s 5))⟩,
                                              ⟨none, some 20, .p (.mv (.s 6))⟩,
                                              ⟨none, some 21, .p (.bin .shr (.s 19) (.s 20))⟩,
                                              ⟨none, some 22, .p (.bin .and (.s 21) (.c (.int .u32 1)))⟩,
                                              ⟨none, some 23, .p (.bin .eql (.s 22) (.c (.int .u32 1)))⟩])] (.one .nil))
                                          (.cond (.s 23)
                                            (.draw [0, 1, 3, 0, 0, 16, 56, 127, 255, 511] [
                                                (none, [⟨none, some 24, .p (.mv (.s 6))⟩,
                                                ⟨none, some 25, .p (.idx (.s 3) (.s 24) (some 32) 1)⟩,
                                                ⟨none, some 26, .r (.ld (.s 25) none)⟩,
                                                ⟨none, some 27, .p (.mv (.s 5))⟩,
                                                ⟨none, some 28, .p (.mv (.s 6))⟩,
                                                ⟨none, some 29, .p (.bin .shl (.c (.int .u32 1)) (.s 28))⟩,
                                                ⟨none, some 30, .p (.bin .andNot (.s 27) (.s 29))⟩,
                                                ⟨none, some 31, .p (.bin .or (.s 26) (.s 30))⟩,
                                                ⟨none, some 32, .p (.idx (.s 3) (.s 24) (some 32) 1)⟩,
                                                ⟨none, none, .e (.st (.s 32) (.s 31) 1)⟩])] (.one .nil))
                                            .skip))))
                                    (.ops [
                                        (none, [⟨none, some 33, .p (.bin .add (.s 16) (.c (.int .i64 1)))⟩,
                                        ⟨none, some 16, .p (.mv (.s 33))⟩])] (.one .nil))))))))))
                    (.ops [
                        (none, [⟨none, some 34, .p (.bin .add (.s 10) (.c (.int .i64 1)))⟩,
                        ⟨none, some 10, .p (.mv (.s 34))⟩])] (.one .nil))))))))
        (.seq
          (.ops [
              (none, [⟨none, some 35, .r (.ld (.s 3) (some 32))⟩,
              ⟨none, none, .e (.st (.s 2) (.s 35) 32)⟩])] (.one .nil))
          .ret))))
theorem cfn69 : cfn Try.prog 69 = some ⟨36, 6, d69.erase, [(.s 2, some (some 32))]⟩ := by kernel_rfl
theorem ok69 : d69.ok 36 6 = true := by kernel_rfl
noncomputable def F69 (a0 : Value) (H : Heap) (nx : Nat) (k : EP) : Prop :=
  dBox a0 fun tc_1 => wNew (.cells tc_1 0) .ptr H nx fun t1_2 H1 nx1 =>
  wNew (.cells [.int .u32 0, .int .u32 0, .int .u32 0, .int .u32 0, .int .u32 0, .int .u32 0, .int .u32 0, .int .u32 0, .int .u32 0, .int .u32 0, .int .u32 0, .int .u32 0, .int .u32 0, .int .u32 0, .int .u32 0, .int .u32 0, .int .u32 0, .int .u32 0, .int .u32 0, .int .u32 0, .int .u32 0, .int .u32 0, .int .u32 0, .int .u32 0, .int .u32 0, .int .u32 0, .int .u32 0, .int .u32 0, .int .u32 0, .int .u32 0, .int .u32 0, .int .u32 0] 0) .ptr H1 nx1 fun t2_3 H2 nx2 =>
  wNew (.cells [.int .u32 0, .int .u32 0, .int .u32 0, .int .u32 0, .int .u32 0, .int .u32 0, .int .u32 0, .int .u32 0, .int .u32 0, .int .u32 0, .int .u32 0, .int .u32 0, .int .u32 0, .int .u32 0, .int .u32 0, .int .u32 0, .int .u32 0, .int .u32 0, .int .u32 0, .int .u32 0, .int .u32 0, .int .u32 0, .int .u32 0, .int .u32 0, .int .u32 0, .int .u32 0, .int .u32 0, .int .u32 0, .int .u32 0, .int .u32 0, .int .u32 0, .int .u32 0] 0) .ptr H2 nx2 fun t3_4 H3 nx3 =>
  wFld t1_2 1 fun t7_5 =>
  wLd t7_5 none H3 fun t8_6 =>
  wLen t8_6 0 H3 fun t9_7 =>
  wLoop (fun tih_8 tL_9 H4 nx4 =>
    wBin .lss (tL_9.getD 0 undef) t9_7 fun t11_10 =>
    wIf t11_10 (
      wIdx t8_6 (tL_9.getD 0 undef) none 1 fun t12_11 =>
      wLd t12_11 none H4 fun t13_12 =>
      wFld t1_2 0 fun t14_13 =>
      wLd t14_13 none H4 fun t15_14 =>
      wLoop (fun tih_15 tL_16 H5 nx5 =>
        wBin .lss (tL_16.getD 0 undef) t15_14 fun t17_17 =>
        wIf t17_17 (
          wJoin (fun tj_18 =>
            wBin .shr t13_12 (tL_16.getD 0 undef) fun t21_20 =>
            wBin .and t21_20 (.int .u32 1) fun t22_21 =>
            wBin .eql t22_21 (.int .u32 1) fun t23_22 =>
            wIf t23_22 (
              forceN (nx5 + 10) fun nx7 =>
              wIdx t3_4 (tL_16.getD 0 undef) (some 32) 1 fun t25_23 =>
              wLd t25_23 none H5 fun t26_24 =>
              wBin .shl (.int .u32 1) (tL_16.getD 0 undef) fun t29_25 =>
              wBin .andNot t13_12 t29_25 fun t30_26 =>
              wBin .or t26_24 t30_26 fun t31_27 =>
              wIdx t3_4 (tL_16.getD 0 undef) (some 32) 1 fun t32_28 =>
              wSt t32_28 t31_27 1 H5 fun H8 =>
              (((((True) ∧ ((wLd t25_23 none H5 fun tq_29 => tq_29 = t26_24) ∧ True)) ∧ True)) ∧ (
                tj_18 [] H8 nx7)) ∨ False) (
              tj_18 [] H5 nx5)) (fun tL_19 H6 nx6 =>
            wBin .add (tL_16.getD 0 undef) (.int .i64 1) fun t33_30 =>
            tih_15 [t33_30] H6 nx6)) (
          wBin .add (tL_9.getD 0 undef) (.int .i64 1) fun t34_31 =>
          tih_8 [t34_31] H5 nx5)) [(.int .i64 0)] H4 nx4) (
      wLd t3_4 (some 32) H4 fun t35_32 =>
      wSt t2_3 t35_32 32 H4 fun H9 =>
      wLd t2_3 (some 32) H9 fun tr_33 =>
      forceV tr_33 fun tv_34 => k tv_34 H9 nx4)) [(.int .i64 0)] H3 nx3
theorem eq69 (a0 : Value) (H : Heap) (nx : Nat) (k : EP) : wBody Try.prog 36 6 d69 [(.s 2, some (some 32))] [a0] H nx k = F69 a0 H nx k := by kernel_rfl
theorem spec69 {a0 : Value} {H : Heap} {nx : Nat} {k : EP} (h : F69 a0 H nx k) : Ans Try.prog 69 [a0] H nx k :=
  spec_of_body mixed namesOK cfn69 ok69 (by simp) ((eq69 a0 H nx k).symm ▸ h)

/-! 50: ordinal/hypergraph.Neighbors -/
def d50 : D :=
  (.seq
    (.ops [
        (none, [⟨none, some 2, .a (.box (.s 0))⟩,
        ⟨none, some 4, .p (.mv (.c (.int .u32 0)))⟩])] (.one .nil))
    (.seq
      (.join [17] [5, 6, 7, 8, 9, 10, 11, 12, 13, 14, 15, 16]
        (.ops [
            (none, [⟨none, some 5, .r (.ld (.s 2) (some 2))⟩,
            ⟨none, some 6, .e (.call (.c (.func (.func 37) ⟨[]⟩ ⟨[]⟩)) [.s 5])⟩,
            ⟨none, some 7, .p (.bin .neq (.s 6) (.c (.int .i64 0)))⟩,
            ⟨none, some 8, .p (.mv (.s 7))⟩]),
            (some (8, false), [⟨none, some 9, .p (.mv (.s 1))⟩,
            ⟨none, some 10, .p (.bin .lss (.s 9) (.c (.int .i64 0)))⟩]),
            (none, [⟨none, some 11, .p (.pick (.s 8) (.c (.bool true)) (.s 10))⟩,
            ⟨none, some 12, .p (.mv (.s 11))⟩]),
            (some (12, false), [⟨none, some 13, .p (.mv (.s 1))⟩,
            ⟨none, some 14, .p (.fld (.s 2) 0)⟩,
            ⟨none, some 15, .r (.ld (.s 14) none)⟩,
            ⟨none, some 16, .p (.bin .geq (.s 13) (.s 15))⟩]),
            (none, [⟨none, some 17, .p (.pick (.s 12) (.c (.bool true)) (.s 16))⟩])] (.one (.tst (.one (.tst (.one .nil) (.one .nil))) (.one (.one (.one .nil))))))
        (.cond (.s 17)
          (.seq
            (.ops [
                (none, [⟨none, some 4, .p (.mv (.c (.int .u32 0)))⟩])] (.one .nil))
            .ret)
          .skip))
      (.seq
        (.ops [
            (none, [⟨none, some 18, .r (.ld (.s 2) (some 2))⟩,
            ⟨none, some 19, .e (.call (.c (.func (.func 69) ⟨[]⟩ ⟨[]⟩)) [.s 18])⟩,
            ⟨none, some 20, .p (.mv (.s 1))⟩,
            ⟨none, some 21, .p (.aidx (.s 19) (.s 20) 32 1 false)⟩,
            ⟨none, some 4, .p (.mv (.s 21))⟩])] (.one .nil))
        .ret)))
theorem cfn50 : cfn Try.prog 50 = some ⟨22, 5, d50.erase, [(.s 4, none)]⟩ := by kernel_rfl
theorem ok50 : d50.ok 22 5 = true := by kernel_rfl
noncomputable def F50 (a0 a1 : Value) (H : Heap) (nx : Nat) (k : EP) : Prop :=
  dBox a0 fun tc_1 => wNew (.cells tc_1 0) .ptr H nx fun t2_2 H1 nx1 =>
  wJoin (fun tj_3 =>
    wLd t2_2 (some 2) H1 fun t5_5 =>
    wCall Try.prog 37 [t5_5] H1 nx1 fun t6_6 H3 nx3 =>
    wBin .neq t6_6 (.int .i64 0) fun t7_7 =>
    wGuard false t7_7 (
      wBin .lss a1 (.int .i64 0) fun t10_8 =>
      wGuard false t10_8 (
        wFld t2_2 0 fun t14_9 =>
        wLd t14_9 none H3 fun t15_10 =>
        wBin .geq a1 t15_10 fun t16_11 =>
        tj_3 [t16_11] H3 nx3) (
        tj_3 [(.bool true)] H3 nx3)) (
        tj_3 [(.bool true)] H3 nx3)) (fun tL_4 H2 nx2 =>
    wIf (tL_4.getD 0 undef) (
      forceV (.int .u32 0) fun tv_12 => k tv_12 H2 nx2) (
      wLd t2_2 (some 2) H2 fun t18_13 =>
      wCall Try.prog 69 [t18_13] H2 nx2 fun t19_14 H4 nx4 =>
      wAidx t19_14 a1 32 1 false fun t21_15 =>
      forceV t21_15 fun tv_16 => k tv_16 H4 nx4))
theorem eq50 (a0 a1 : Value) (H : Heap) (nx : Nat) (k : EP) : wBody Try.prog 22 5 d50 [(.s 4, none)] [a0, a1] H nx k = F50 a0 a1 H nx k := by kernel_rfl
theorem spec50 {a0 a1 : Value} {H : Heap} {nx : Nat} {k : EP} (h : F50 a0 a1 H nx k) : Ans Try.prog 50 [a0, a1] H nx k :=
  spec_of_body mixed namesOK cfn50 ok50 (by simp) ((eq50 a0 a1 H nx k).symm ▸ h)

/-! 33: ordinal/elimination.adjacency -/
def d33 : D :=
  (.seq
    (.ops [
        (none, [⟨none, some 1, .a (.box (.s 0))⟩,
        ⟨none, some 2, .a (.alloc [.int .u32 0, .int .u32 0, .int .u32 0, .int .u32 0, .int .u32 0, .int .u32 0, .int .u32 0, .int .u32 0, .int .u32 0, .int .u32 0, .int .u32 0, .int .u32 0, .int .u32 0, .int .u32 0, .int .u32 0, .int .u32 0, .int .u32 0, .int .u32 0, .int .u32 0, .int .u32 0, .int .u32 0, .int .u32 0, .int .u32 0, .int .u32 0, .int .u32 0, .int .u32 0, .int .u32 0, .int .u32 0, .int .u32 0, .int .u32 0, .int .u32 0, .int .u32 0])⟩])] (.one .nil))
    (.seq
      (.ops [
          (none, [⟨none, some 3, .a (.alloc [.int .u32 0, .int .u32 0, .int .u32 0, .int .u32 0, .int .u32 0, .int .u32 0, .int .u32 0, .int .u32 0, .int .u32 0, .int .u32 0, .int .u32 0, .int .u32 0, .int .u32 0, .int .u32 0, .int .u32 0, .int .u32 0, .int .u32 0, .int .u32 0, .int .u32 0, .int .u32 0, .int .u32 0, .int .u32 0, .int .u32 0, .int .u32 0, .int .u32 0, .int .u32 0, .int .u32 0, .int .u32 0, .int .u32 0, .int .u32 0, .int .u32 0, .int .u32 0])⟩])] (.one .nil))
      (.seq
        (.seq
          (.ops [
              (none, [⟨none, some 5, .p (.fld (.s 1) 0)⟩,
              ⟨none, some 6, .r (.ld (.s 5) none)⟩,
              ⟨none, some 7, .p (.mv (.c (.int .i64 0)))⟩])] (.one .nil))
          (.block 0
            (.loop [7] [4, 8, 9, 10, 11, 12, 13, 14, 15]
              (.seq
                (.ops [
                    (none, [⟨none, some 8, .p (.bin .lss (.s 7) (.s 6))⟩])] (.one .nil))
                (.seq
                  (.cond (.s 8)
                    .skip
                    (.exit 0))
                  (.seq
                    (.block 1
                      (.seq
                        (.ops [
                            (none, [⟨none, some 9, .p (.mv (.s 7))⟩,
                            ⟨none, some 4, .p (.mv (.s 9))⟩])] (.one .nil))
                        (.ops [
                            (none, [⟨none, some 10, .p (.mv (.s 4))⟩,
                            ⟨none, some 11, .r (.ld (.s 1) (some 2))⟩,
                            ⟨none, some 12, .p (.mv (.s 4))⟩,
                            ⟨none, some 13, .e (.call (.c (.func (.func 50) ⟨[]⟩ ⟨[]⟩)) [.s 11, .s 12])⟩,
                            ⟨none, some 14, .p (.idx (.s 3) (.s 10) (some 32) 1)⟩,
                            ⟨none, none, .e (.st (.s 14) (.s 13) 1)⟩])] (.one .nil))))
                    (.ops [
                        (none, [⟨none, some 15, .p (.bin .add (.s 7) (.c (.int .i64 1)))⟩,
                        ⟨none, some 7, .p (.mv (.s 15))⟩])] (.one .nil))))))))
        (.seq
          (.ops [
              (none, [⟨none, some 16, .r (.ld (.s 3) (some 32))⟩,
              ⟨none, none, .e (.st (.s 2) (.s 16) 32)⟩])] (.one .nil))
          .ret))))
theorem cfn33 : cfn Try.prog 33 = some ⟨17, 5, d33.erase, [(.s 2, some (some 32))]⟩ := by kernel_rfl
theorem ok33 : d33.ok 17 5 = true := by kernel_rfl
noncomputable def F33 (a0 : Value) (H : Heap) (nx : Nat) (k : EP) : Prop :=
  dBox a0 fun tc_1 => wNew (.cells tc_1 0) .ptr H nx fun t1_2 H1 nx1 =>
  wNew (.cells [.int .u32 0, .int .u32 0, .int .u32 0, .int .u32 0, .int .u32 0, .int .u32 0, .int .u32 0, .int .u32 0, .int .u32 0, .int .u32 0, .int .u32 0, .int .u32 0, .int .u32 0, .int .u32 0, .int .u32 0, .int .u32 0, .int .u32 0, .int .u32 0, .int .u32 0, .int .u32 0, .int .u32 0, .int .u32 0, .int .u32 0, .int .u32 0, .int .u32 0, .int .u32 0, .int .u32 0, .int .u32 0, .int .u32 0, .int .u32 0, .int .u32 0, .int .u32 0] 0) .ptr H1 nx1 fun t2_3 H2 nx2 =>
  wNew (.cells [.int .u32 0, .int .u32 0, .int .u32 0, .int .u32 0, .int .u32 0, .int .u32 0, .int .u32 0, .int .u32 0, .int .u32 0, .int .u32 0, .int .u32 0, .int .u32 0, .int .u32 0, .int .u32 0, .int .u32 0, .int .u32 0, .int .u32 0, .int .u32 0, .int .u32 0, .int .u32 0, .int .u32 0, .int .u32 0, .int .u32 0, .int .u32 0, .int .u32 0, .int .u32 0, .int .u32 0, .int .u32 0, .int .u32 0, .int .u32 0, .int .u32 0, .int .u32 0] 0) .ptr H2 nx2 fun t3_4 H3 nx3 =>
  wFld t1_2 0 fun t5_5 =>
  wLd t5_5 none H3 fun t6_6 =>
  wLoop (fun tih_7 tL_8 H4 nx4 =>
    wBin .lss (tL_8.getD 0 undef) t6_6 fun t8_9 =>
    wIf t8_9 (
      wLd t1_2 (some 2) H4 fun t11_10 =>
      wCall Try.prog 50 [t11_10, (tL_8.getD 0 undef)] H4 nx4 fun t13_11 H5 nx5 =>
      wIdx t3_4 (tL_8.getD 0 undef) (some 32) 1 fun t14_12 =>
      wSt t14_12 t13_11 1 H5 fun H6 =>
      wBin .add (tL_8.getD 0 undef) (.int .i64 1) fun t15_13 =>
      tih_7 [t15_13] H6 nx5) (
      wLd t3_4 (some 32) H4 fun t16_14 =>
      wSt t2_3 t16_14 32 H4 fun H7 =>
      wLd t2_3 (some 32) H7 fun tr_15 =>
      forceV tr_15 fun tv_16 => k tv_16 H7 nx4)) [(.int .i64 0)] H3 nx3
theorem eq33 (a0 : Value) (H : Heap) (nx : Nat) (k : EP) : wBody Try.prog 17 5 d33 [(.s 2, some (some 32))] [a0] H nx k = F33 a0 H nx k := by kernel_rfl
theorem spec33 {a0 : Value} {H : Heap} {nx : Nat} {k : EP} (h : F33 a0 H nx k) : Ans Try.prog 33 [a0] H nx k :=
  spec_of_body mixed namesOK cfn33 ok33 (by simp) ((eq33 a0 H nx k).symm ▸ h)

end Go.Proofs.Ytaieijjfabbfeaa

set_option linter.unusedSimpArgs false
set_option linter.unusedVariables false
set_option linter.unusedSectionVars false
namespace Go.Proofs.Ytaieijjfabbfeaa
open Go.Clo
set_option maxRecDepth 100000
/-! 16: ordinal/ordinalref30.Bags -/
def d16 : D :=
  (.seq
    (.ops [
        (none, [⟨none, some 3, .a (.box (.s 0))⟩,
        ⟨none, some 6, .p (.mv (.c (.slice none 0 0)))⟩])] (.one .nil))
    (.seq
      (.ops [
          (none, [⟨none, some 18, .p (.fld (.s 3) 0)⟩,
          ⟨none, some 19, .r (.ld (.s 18) none)⟩,
          ⟨none, some 20, .a (.msl (.s 19) (.s 19) [.int .u32 0])⟩,
          ⟨none, some 7, .p (.mv (.s 20))⟩])] (.one .nil))
      (.seq
        (.seq
          (.ops [
              (none, [⟨none, some 8, .p (.mv (.c (.int .i64 0)))⟩])] (.one .nil))
          (.block 0
            (.loop [8] [21, 22, 23, 24, 25, 26, 27, 28, 29, 30, 31, 32]
              (.seq
                (.seq
                  (.ops [
                      (none, [⟨none, some 21, .p (.mv (.s 8))⟩,
                      ⟨none, some 22, .p (.fld (.s 3) 0)⟩,
                      ⟨none, some 23, .r (.ld (.s 22) none)⟩,
                      ⟨none, some 24, .p (.bin .lss (.s 21) (.s 23))⟩])] (.one .nil))
                  (.cond (.s 24)
                    .skip
                    (.exit 0)))
                (.seq
                  (.block 1
                    (.ops [
                        (none, [⟨none, some 27, .p (.mv (.s 7))⟩,
                        ⟨none, some 28, .p (.mv (.s 8))⟩,
                        ⟨none, some 29, .r (.ld (.s 3) (some 2))⟩,
                        ⟨none, some 30, .p (.mv (.s 8))⟩,
                        ⟨none, some 31, .e (.call (.c (.func (.func 34) ⟨[]⟩ ⟨[]⟩)) [.s 29, .s 30])⟩,
                        ⟨none, some 32, .p (.idx (.s 27) (.s 28) none 1)⟩,
                        ⟨none, none, .e (.st (.s 32) (.s 31) 1)⟩])] (.one .nil)))
                  (.ops [
                      (none, [⟨none, some 25, .p (.mv (.s 8))⟩,
                      ⟨none, some 26, .p (.bin .add (.s 25) (.c (.int .i64 1)))⟩,
                      ⟨none, some 8, .p (.mv (.s 26))⟩])] (.one .nil)))))))
        (.seq
          (.ops [
              (none, [⟨none, some 33, .p (.fld (.s 3) 0)⟩,
              ⟨none, some 34, .r (.ld (.s 33) none)⟩,
              ⟨none, some 35, .a (.msl (.s 34) (.s 34) [.int .i64 0, .int .u32 0, .int .i64 0])⟩,
              ⟨none, some 9, .p (.mv (.s 35))⟩])] (.one .nil))
          (.seq
            (.ops [
                (none, [⟨none, some 36, .p (.mv (.s 1))⟩,
                ⟨none, some 37, .p (.mv (.s 2))⟩,
                ⟨none, some 38, .e (.call (.c (.func (.func 35) ⟨[]⟩ ⟨[]⟩)) [.s 36, .s 37])⟩,
                ⟨none, some 10, .p (.mv (.s 38))⟩])] (.one .nil))
            (.seq
              (.seq
                (.ops [
                    (none, [⟨none, some 11, .p (.mv (.c (.int .i64 0)))⟩])] (.one .nil))
                (.block 2
                  (.loop [11] [12, 13, 14, 15, 16, 17, 39, 40, 41, 42, 43, 44, 45, 46, 47, 48, 49, 50, 51, 52, 53, 54, 55, 56, 57, 58, 59, 60, 61, 62, 63, 64, 65, 66, 67, 68, 69, 70, 71, 72, 73, 74, 75, 76, 77, 78, 79, 80, 81, 82, 83, 84, 85, 86, 87, 88, 89, 90, 91, 92, 93, 94, 95, 96, 97, 98, 99, 100, 101, 102, 103, 104, 105, 106, 107, 108, 109, 110, 111, 112, 113, 114, 115, 116, 117, 118]
                    (.seq
                      (.seq
                        (.ops [
                            (none, [⟨none, some 39, .p (.mv (.s 11))⟩,
                            ⟨none, some 40, .p (.mv (.s 10))⟩,
                            ⟨none, some 41, .r (.len (.s 40) 0)⟩,
                            ⟨none, some 42, .p (.bin .lss (.s 39) (.s 41))⟩])] (.one .nil))
                        (.cond (.s 42)
                          .skip
                          (.exit 2)))
                      (.seq
                        (.block 3
                          (.seq
                            (.ops [
                                (none, [⟨none, some 45, .p (.mv (.s 10))⟩,
                                ⟨none, some 46, .p (.mv (.s 11))⟩,
                                ⟨none, some 47, .p (.idx (.s 45) (.s 46) none 1)⟩,
                                ⟨none, some 48, .r (.ld (.s 47) none)⟩,
                                ⟨none, some 12, .p (.mv (.s 48))⟩])] (.one .nil))
                            (.seq
                              (.ops [
                                  (none, [⟨none, some 13, .p (.mv (.c (.int .u32 0)))⟩,
                                  ⟨none, some 14, .p (.mv (.c (.int .i64 (-1))))⟩])] (.one .nil))
                              (.seq
                                (.seq
                                  (.ops [
                                      (none, [⟨none, some 49, .p (.mv (.s 10))⟩,
                                      ⟨none, some 50, .r (.len (.s 49) 0)⟩,
                                      ⟨none, some 51, .p (.bin .sub (.s 50) (.c (.int .i64 1)))⟩,
                                      ⟨none, some 15, .p (.mv (.s 51))⟩])] (.one .nil))
                                  (.block 4
                                    (.loop [13, 14, 15] [52, 53, 54, 55, 56, 57, 58, 59, 60, 61, 62, 63, 64, 65, 66, 67, 68, 69, 70, 71, 72, 73, 74, 75, 76]
                                      (.seq
                                        (.seq
                                          (.ops [
                                              (none, [⟨none, some 52, .p (.mv (.s 15))⟩,
                                              ⟨none, some 53, .p (.mv (.s 11))⟩,
                                              ⟨none, some 54, .p (.bin .gtr (.s 52) (.s 53))⟩])] (.one .nil))
                                          (.cond (.s 54)
                                            .skip
                                            (.exit 4)))
                                        (.join [13, 14] [57, 58, 59, 60, 61, 62, 63, 64, 65, 66, 67, 68, 69, 70, 71, 72, 73, 74, 75, 76]
                                          (.block 5
                                            (.seq
                                              (.draw [0, 0, 3, 7, 0, 0, 48, 112, 255] [
                                                  (none, [⟨none, some 57, .p (.mv (.s 7))⟩,
                                                  ⟨none, some 58, .p (.mv (.s 12))⟩,
                                                  ⟨none, some 59, .p (.idx (.s 57) (.s 58) none 1)⟩,
                                                  ⟨none, some 60, .r (.ld (.s 59) none)⟩,
                                                  ⟨none, some 61, .p (.mv (.s 10))⟩,
                                                  ⟨none, some 62, .p (.mv (.s 15))⟩,
                                                  ⟨none, some 63, .p (.idx (.s 61) (.s 62) none 1)⟩,
                                                  ⟨none, some 64, .r (.ld (.s 63) none)⟩,
                                                  ⟨none, some 65, .e (.call (.c (.func (.func 29) ⟨[]⟩ ⟨[]⟩)) [.s 60, .s 64])⟩])] (.one .nil))
                                              (.cond (.s 65)
                                                (.seq
                                                  (.ops [
                                                      (none, [⟨none, some 66, .p (.mv (.s 13))⟩,
                                                      ⟨none, some 67, .p (.mv (.s 10))⟩,
                                                      ⟨none, some 68, .p (.mv (.s 15))⟩,
                                                      ⟨none, some 69, .p (.idx (.s 67) (.s 68) none 1)⟩,
                                                      ⟨none, some 70, .r (.ld (.s 69) none)⟩,
                                                      ⟨none, some 71, .p (.bin .shl (.c (.int .u32 1)) (.s 70))⟩,
                                                      ⟨none, some 72, .p (.bin .add (.s 66) (.s 71))⟩,
                                                      ⟨none, some 13, .p (.mv (.s 72))⟩])] (.one .nil))
                                                  (.ops [
                                                      (none, [⟨none, some 73, .p (.mv (.s 10))⟩,
                                                      ⟨none, some 74, .p (.mv (.s 15))⟩,
                                                      ⟨none, some 75, .p (.idx (.s 73) (.s 74) none 1)⟩,
                                                      ⟨none, some 76, .r (.ld (.s 75) none)⟩,
                                                      ⟨none, some 14, .p (.mv (.s 76))⟩])] (.one .nil)))
                                                .skip)))
                                          (.ops [
                                              (none, [⟨none, some 55, .p (.mv (.s 15))⟩,
                                              ⟨none, some 56, .p (.bin .sub (.s 55) (.c (.int .i64 1)))⟩,
                                              ⟨none, some 15, .p (.mv (.s 56))⟩])] (.one .nil)))))))
                                (.seq
                                  (.ops [
                                      (none, [⟨none, some 77, .p (.mv (.s 9))⟩,
                                      ⟨none, some 78, .p (.mv (.s 12))⟩,
                                      ⟨none, some 79, .p (.mv (.s 12))⟩,
                                      ⟨none, some 80, .p (.mv (.s 13))⟩,
                                      ⟨none, some 81, .p (.mv (.s 14))⟩,
                                      ⟨none, some 82, .p (.build [.int .i64 0, .int .u32 0, .int .i64 0] [(0, 1), (1, 1), (2, 1)] [(0, .s 79), (1, .s 80), (2, .s 81)])⟩,
                                      ⟨none, some 83, .p (.idx (.s 77) (.s 78) none 3)⟩,
                                      ⟨none, none, .e (.st (.s 83) (.s 82) 3)⟩])] (.one .nil))
                                  (.seq
                                    (.ops [
                                        (none, [⟨none, some 16, .p (.mv (.c (.int .i64 0)))⟩])] (.one .nil))
                                    (.block 6
                                      (.loop [16] [17, 84, 85, 86, 87, 88, 89, 90, 91, 92, 93, 94, 95, 96, 97, 98, 99, 100, 101, 102, 103, 104, 105, 106, 107, 108, 109, 110, 111, 112, 113, 114, 115, 116, 117, 118]
                                        (.seq
                                          (.seq
                                            (.ops [
                                                (none, [⟨none, some 84, .p (.mv (.s 16))⟩,
                                                ⟨none, some 85, .p (.fld (.s 3) 0)⟩,
                                                ⟨none, some 86, .r (.ld (.s 85) none)⟩,
                                                ⟨none, some 87, .p (.bin .lss (.s 84) (.s 86))⟩])] (.one .nil))
                                            (.cond (.s 87)
                                              .skip
                                              (.exit 6)))
                                          (.seq
                                            (.block 7
                                              (.seq
                                                (.ops [
                                                    (none, [⟨none, some 17, .p (.mv (.c (.int .i64 0)))⟩])] (.one .nil))
                                                (.block 8
                                                  (.loop [17] [90, 91, 92, 93, 94, 95, 96, 97, 98, 99, 100, 101, 102, 103, 104, 105, 106, 107, 108, 109, 110, 111, 112, 113, 114, 115, 116, 117, 118]
                                                    (.seq
                                                      (.seq
                                                        (.ops [
                                                            (none, [⟨none, some 90, .p (.mv (.s 17))⟩,
                                                            ⟨none, some 91, .p (.fld (.s 3) 0)⟩,
                                                            ⟨none, some 92, .r (.ld (.s 91) none)⟩,
                                                            ⟨none, some 93, .p (.bin .lss (.s 90) (.s 92))⟩])] (.one .nil))
                                                        (.cond (.s 93)
                                                          .skip
                                                          (.exit 8)))
                                                      (.join [] [96, 97, 98, 99, 100, 101, 102, 103, 104, 105, 106, 107, 108, 109, 110, 111, 112, 113, 114, 115, 116, 117, 118]
                                                        (.block 9
                                                          (.join [108] [96, 97, 98, 99, 100, 101, 102, 103, 104, 105, 106, 107]
                                                            (.ops [
                                                                (none, [⟨none, some 96, .p (.mv (.s 16))⟩,
                                                                ⟨none, some 97, .p (.mv (.s 17))⟩,
                                                                ⟨none, some 98, .p (.bin .neq (.s 96) (.s 97))⟩,
                                                                ⟨none, some 99, .p (.mv (.s 98))⟩]),
                                                                (some (99, true), [⟨none, some 100, .p (.mv (.s 13))⟩,
                                                                ⟨none, some 101, .p (.mv (.s 16))⟩,
                                                                ⟨none, some 102, .e (.call (.c (.func (.func 29) ⟨[]⟩ ⟨[]⟩)) [.s 100, .s 101])⟩]),
                                                                (none, [⟨none, some 103, .p (.pick (.s 99) (.s 102) (.c (.bool false)))⟩,
                                                                ⟨none, some 104, .p (.mv (.s 103))⟩]),
                                                                (some (104, true), [⟨none, some 105, .p (.mv (.s 13))⟩,
                                                                ⟨none, some 106, .p (.mv (.s 17))⟩,
                                                                ⟨none, some 107, .e (.call (.c (.func (.func 29) ⟨[]⟩ ⟨[]⟩)) [.s 105, .s 106])⟩]),
                                                                (none, [⟨none, some 108, .p (.pick (.s 104) (.s 107) (.c (.bool false)))⟩])] (.one (.tst (.one (.tst (.one .nil) (.one .nil))) (.one (.one (.one .nil))))))
                                                            (.cond (.s 108)
                                                              (.draw [0, 0, 0, 0, 12, 28, 0, 64, 252, 511, 1023] [
                                                                  (none, [⟨none, some 109, .p (.mv (.s 7))⟩,
                                                                  ⟨none, some 110, .p (.mv (.s 16))⟩,
                                                                  ⟨none, some 111, .p (.mv (.s 7))⟩,
                                                                  ⟨none, some 112, .p (.mv (.s 16))⟩,
                                                                  ⟨none, some 113, .p (.idx (.s 111) (.s 112) none 1)⟩,
                                                                  ⟨none, some 114, .r (.ld (.s 113) none)⟩,
                                                                  ⟨none, some 115, .p (.mv (.s 17))⟩,
                                                                  ⟨none, some 116, .p (.bin .shl (.c (.int .u32 1)) (.s 115))⟩,
                                                                  ⟨none, some 117, .p (.bin .or (.s 114) (.s 116))⟩,
                                                                  ⟨none, some 118, .p (.idx (.s 109) (.s 110) none 1)⟩,
                                                                  ⟨none, none, .e (.st (.s 118) (.s 117) 1)⟩])] (.one .nil))
                                                              .skip)))
                                                        (.ops [
                                                            (none, [⟨none, some 94, .p (.mv (.s 17))⟩,
                                                            ⟨none, some 95, .p (.bin .add (.s 94) (.c (.int .i64 1)))⟩,
                                                            ⟨none, some 17, .p (.mv (.s 95))⟩])] (.one .nil))))))))
                                            (.ops [
                                                (none, [⟨none, some 88, .p (.mv (.s 16))⟩,
                                                ⟨none, some 89, .p (.bin .add (.s 88) (.c (.int .i64 1)))⟩,
                                                ⟨none, some 16, .p (.mv (.s 89))⟩])] (.one .nil))))))))))))
                        (.ops [
                            (none, [⟨none, some 43, .p (.mv (.s 11))⟩,
                            ⟨none, some 44, .p (.bin .add (.s 43) (.c (.int .i64 1)))⟩,
                            ⟨none, some 11, .p (.mv (.s 44))⟩])] (.one .nil)))))))
              (.seq
                (.ops [
                    (none, [⟨none, some 119, .p (.mv (.s 9))⟩,
                    ⟨none, some 6, .p (.mv (.s 119))⟩])] (.one .nil))
                .ret)))))))
theorem cfn16 : cfn Try.prog 16 = some ⟨120, 7, d16.erase, [(.s 6, none)]⟩ := by kernel_rfl
theorem ok16 : d16.ok 120 7 = true := by kernel_rfl
noncomputable def F16 (a0 a1 a2 : Value) (H : Heap) (nx : Nat) (k : EP) : Prop :=
  dBox a0 fun tc_1 => wNew (.cells tc_1 0) .ptr H nx fun t3_2 H1 nx1 =>
  wFld t3_2 0 fun t18_3 =>
  wLd t18_3 none H1 fun t19_4 =>
  dMsl t19_4 t19_4 [.int .u32 0] fun tc_5 tl_7 tm_8 => wNew (.cells tc_5 0) (.slice tl_7 tm_8) H1 nx1 fun t20_6 H2 nx2 =>
  wLoop (fun tih_9 tL_10 H3 nx3 =>
    wFld t3_2 0 fun t22_11 =>
    wLd t22_11 none H3 fun t23_12 =>
    wBin .lss (tL_10.getD 0 undef) t23_12 fun t24_13 =>
    wIf t24_13 (
      wLd t3_2 (some 2) H3 fun t29_14 =>
      wCall Try.prog 34 [t29_14, (tL_10.getD 0 undef)] H3 nx3 fun t31_15 H4 nx4 =>
      wIdx t20_6 (tL_10.getD 0 undef) none 1 fun t32_16 =>
      wSt t32_16 t31_15 1 H4 fun H5 =>
      wBin .add (tL_10.getD 0 undef) (.int .i64 1) fun t26_17 =>
      tih_9 [t26_17] H5 nx4) (
      wFld t3_2 0 fun t33_18 =>
      wLd t33_18 none H3 fun t34_19 =>
      dMsl t34_19 t34_19 [.int .i64 0, .int .u32 0, .int .i64 0] fun tc_20 tl_22 tm_23 => wNew (.cells tc_20 0) (.slice tl_22 tm_23) H3 nx3 fun t35_21 H6 nx6 =>
      wCall Try.prog 35 [a1, a2] H6 nx6 fun t38_24 H7 nx7 =>
      wLoop (fun tih_25 tL_26 H8 nx8 =>
        wLen t38_24 0 H8 fun t41_27 =>
        wBin .lss (tL_26.getD 0 undef) t41_27 fun t42_28 =>
        wIf t42_28 (
          wIdx t38_24 (tL_26.getD 0 undef) none 1 fun t47_29 =>
          wLd t47_29 none H8 fun t48_30 =>
          wLen t38_24 0 H8 fun t50_31 =>
          wBin .sub t50_31 (.int .i64 1) fun t51_32 =>
          wLoop (fun tih_33 tL_34 H9 nx9 =>
            wBin .gtr (tL_34.getD 2 undef) (tL_26.getD 0 undef) fun t54_35 =>
            wIf t54_35 (
              wJoin (fun tj_36 =>
                forceN (nx9 + 9) fun nx11 =>
                wIdx t20_6 t48_30 none 1 fun t59_38 =>
                wLd t59_38 none H9 fun t60_39 =>
                wIdx t38_24 (tL_34.getD 2 undef) none 1 fun t63_40 =>
                wLd t63_40 none H9 fun t64_41 =>
                wCall Try.prog 29 [t60_39, t64_41] H9 nx11 fun t65_42 H12 nx12 =>
                (((((True) ∧ ((wLd t63_40 none H9 fun tq_44 => tq_44 = t64_41) ∧ True)) ∧ (((True) ∧ ((wLd t59_38 none H9 fun tq_43 => tq_43 = t60_39) ∧ True)) ∧ True))) ∧ (
                  wIf t65_42 (
                    wIdx t38_24 (tL_34.getD 2 undef) none 1 fun t69_45 =>
                    wLd t69_45 none H12 fun t70_46 =>
                    wBin .shl (.int .u32 1) t70_46 fun t71_47 =>
                    wBin .add (tL_34.getD 0 undef) t71_47 fun t72_48 =>
                    wIdx t38_24 (tL_34.getD 2 undef) none 1 fun t75_49 =>
                    wLd t75_49 none H12 fun t76_50 =>
                    tj_36 [t72_48, t76_50] H12 nx12) (
                    tj_36 [(tL_34.getD 0 undef), (tL_34.getD 1 undef)] H12 nx12))) ∨ False) (fun tL_37 H10 nx10 =>
                wBin .sub (tL_34.getD 2 undef) (.int .i64 1) fun t56_51 =>
                tih_33 [(tL_37.getD 0 undef), (tL_37.getD 1 undef), t56_51] H10 nx10)) (
              wBuild [.int .i64 0, .int .u32 0, .int .i64 0] [(0, 1), (1, 1), (2, 1)] [(0, t48_30), (1, (tL_34.getD 0 undef)), (2, (tL_34.getD 1 undef))] fun t82_52 =>
              wIdx t35_21 t48_30 none 3 fun t83_53 =>
              wSt t83_53 t82_52 3 H9 fun H13 =>
              wLoop (fun tih_54 tL_55 H14 nx14 =>
                wFld t3_2 0 fun t85_56 =>
                wLd t85_56 none H14 fun t86_57 =>
                wBin .lss (tL_55.getD 0 undef) t86_57 fun t87_58 =>
                wIf t87_58 (
                  wLoop (fun tih_59 tL_60 H15 nx15 =>
                    wFld t3_2 0 fun t91_61 =>
                    wLd t91_61 none H15 fun t92_62 =>
                    wBin .lss (tL_60.getD 0 undef) t92_62 fun t93_63 =>
                    wIf t93_63 (
                      wJoin (fun tj_64 =>
                        wJoin (fun tj_66 =>
                          wBin .neq (tL_55.getD 0 undef) (tL_60.getD 0 undef) fun t98_68 =>
                          wGuard true t98_68 (
                            wCall Try.prog 29 [(tL_34.getD 0 undef), (tL_55.getD 0 undef)] H15 nx15 fun t102_69 H18 nx18 =>
                            wGuard true t102_69 (
                              wCall Try.prog 29 [(tL_34.getD 0 undef), (tL_60.getD 0 undef)] H18 nx18 fun t107_70 H19 nx19 =>
                              tj_66 [t107_70] H19 nx19) (
                              tj_66 [(.bool false)] H18 nx18)) (
                              tj_66 [(.bool false)] H15 nx15)) (fun tL_67 H17 nx17 =>
                          wIf (tL_67.getD 0 undef) (
                            forceN (nx17 + 11) fun nx20 =>
                            wIdx t20_6 (tL_55.getD 0 undef) none 1 fun t113_71 =>
                            wLd t113_71 none H17 fun t114_72 =>
                            wBin .shl (.int .u32 1) (tL_60.getD 0 undef) fun t116_73 =>
                            wBin .or t114_72 t116_73 fun t117_74 =>
                            wIdx t20_6 (tL_55.getD 0 undef) none 1 fun t118_75 =>
                            wSt t118_75 t117_74 1 H17 fun H21 =>
                            (((((True) ∧ ((wLd t113_71 none H17 fun tq_76 => tq_76 = t114_72) ∧ True)) ∧ True)) ∧ (
                              tj_64 [] H21 nx20)) ∨ False) (
                            tj_64 [] H17 nx17))) (fun tL_65 H16 nx16 =>
                        wBin .add (tL_60.getD 0 undef) (.int .i64 1) fun t95_77 =>
                        tih_59 [t95_77] H16 nx16)) (
                      wBin .add (tL_55.getD 0 undef) (.int .i64 1) fun t89_78 =>
                      tih_54 [t89_78] H15 nx15)) [(.int .i64 0)] H14 nx14) (
                  wBin .add (tL_26.getD 0 undef) (.int .i64 1) fun t44_79 =>
                  tih_25 [t44_79] H14 nx14)) [(.int .i64 0)] H13 nx9)) [(.int .u32 0), (.int .i64 (-1)), t51_32] H8 nx8) (
          forceV t35_21 fun tv_80 => k tv_80 H8 nx8)) [(.int .i64 0)] H7 nx7)) [(.int .i64 0)] H2 nx2
theorem eq16 (a0 a1 a2 : Value) (H : Heap) (nx : Nat) (k : EP) : wBody Try.prog 120 7 d16 [(.s 6, none)] [a0, a1, a2] H nx k = F16 a0 a1 a2 H nx k := by kernel_rfl
theorem spec16 {a0 a1 a2 : Value} {H : Heap} {nx : Nat} {k : EP} (h : F16 a0 a1 a2 H nx k) : Ans Try.prog 16 [a0, a1, a2] H nx k :=
  spec_of_body mixed namesOK cfn16 ok16 (by simp) ((eq16 a0 a1 a2 H nx k).symm ▸ h)

end Go.Proofs.Ytaieijjfabbfeaa
