/-
  MADE BY PROGRAM (wip/gen/gen.py): functions 15 33 37 42 69 70 71 63 39 40 41 50 36 35 34 16 as marked code, and their claims written out.
-/
import Derived.Test.YtdecggbglnbhlaaGreatDoorK9
import Derived.KernelRfl
set_option linter.unusedSimpArgs false
set_option linter.unusedVariables false
set_option linter.unusedSectionVars false
namespace Go.Proofs.YtdecggbglnbhlaaGreatDoor
open Go.Clo
set_option maxRecDepth 100000
/-! 15: ordinal/hypergraph.Check -/
def d15 : D :=
  (.seq
    (.ops [
        (none, [⟨none, some 1, .a (.box (.s 0))⟩,
        ⟨none, some 2, .p (.mv (.c (.int .i64 0)))⟩])] (.one .nil))
    (.seq
      (.join [12] [5, 6, 7, 8, 9, 10, 11]
        (.ops [
            (none, [⟨none, some 5, .p (.fld (.s 1) 0)⟩,
            ⟨none, some 6, .r (.ld (.s 5) none)⟩,
            ⟨none, some 7, .p (.bin .lss (.s 6) (.c (.int .i64 0)))⟩,
            ⟨none, some 8, .p (.mv (.s 7))⟩]),
            (some (8, false), [⟨none, some 9, .p (.fld (.s 1) 0)⟩,
            ⟨none, some 10, .r (.ld (.s 9) none)⟩,
            ⟨none, some 11, .p (.bin .gtr (.s 10) (.c (.int .i64 32)))⟩]),
            (none, [⟨none, some 12, .p (.pick (.s 8) (.c (.bool true)) (.s 11))⟩])] (.one (.tst (.one .nil) (.one .nil))))
        (.cond (.s 12)
          (.seq
            (.ops [
                (none, [⟨none, some 2, .p (.mv (.c (.int .i64 3)))⟩])] (.one .nil))
            .ret)
          .skip))
      (.seq
        (.seq
          (.ops [
              (none, [⟨none, some 13, .p (.fld (.s 1) 1)⟩,
              ⟨none, some 14, .r (.ld (.s 13) none)⟩,
              ⟨none, some 15, .r (.len (.s 14) 0)⟩,
              ⟨none, some 16, .p (.bin .gtr (.s 15) (.c (.int .i64 64)))⟩])] (.one .nil))
          (.cond (.s 16)
            (.seq
              (.ops [
                  (none, [⟨none, some 2, .p (.mv (.c (.int .i64 12)))⟩])] (.one .nil))
              .ret)
            .skip))
        (.seq
          (.seq
            (.ops [
                (none, [⟨none, some 17, .p (.fld (.s 1) 1)⟩,
                ⟨none, some 18, .r (.ld (.s 17) none)⟩,
                ⟨none, some 19, .r (.len (.s 18) 0)⟩,
                ⟨none, some 20, .p (.mv (.c (.int .i64 0)))⟩])] (.one .nil))
            (.block 0
              (.loop [20] [2, 4, 21, 22, 23, 24, 25, 26, 27, 28, 29, 30]
                (.seq
                  (.ops [
                      (none, [⟨none, some 21, .p (.bin .lss (.s 20) (.s 19))⟩])] (.one .nil))
                  (.seq
                    (.cond (.s 21)
                      .skip
                      (.exit 0))
                    (.seq
                      (.block 1
                        (.seq
                          (.ops [
                              (none, [⟨none, some 22, .p (.idx (.s 18) (.s 20) none 1)⟩,
                              ⟨none, some 23, .r (.ld (.s 22) none)⟩,
                              ⟨none, some 4, .p (.mv (.s 23))⟩])] (.one .nil))
                          (.seq
                            (.ops [
                                (none, [⟨none, some 24, .p (.mv (.s 4))⟩,
                                ⟨none, some 25, .p (.fld (.s 1) 0)⟩,
                                ⟨none, some 26, .r (.ld (.s 25) none)⟩,
                                ⟨none, some 27, .e (.call (.c (.func (.func 33) ⟨[]⟩ ⟨[]⟩)) [.s 26])⟩,
                                ⟨none, some 28, .p (.bin .andNot (.s 24) (.s 27))⟩,
                                ⟨none, some 29, .p (.bin .neq (.s 28) (.c (.int .u32 0)))⟩])] (.one .nil))
                            (.cond (.s 29)
                              (.seq
                                (.ops [
                                    (none, [⟨none, some 2, .p (.mv (.c (.int .i64 1)))⟩])] (.one .nil))
                                .ret)
                              .skip))))
                      (.ops [
                          (none, [⟨none, some 30, .p (.bin .add (.s 20) (.c (.int .i64 1)))⟩,
                          ⟨none, some 20, .p (.mv (.s 30))⟩])] (.one .nil))))))))
          (.seq
            (.ops [
                (none, [⟨none, some 2, .p (.mv (.c (.int .i64 0)))⟩])] (.one .nil))
            .ret)))))
theorem cfn15 : cfn Tryz.prog 15 = some ⟨31, 5, d15.erase, [(.s 2, none)]⟩ := by kernel_rfl
theorem ok15 : d15.ok 31 5 = true := by kernel_rfl
noncomputable def F15 (a0 : Value) (H : Heap) (nx : Nat) (k : EP) : Prop :=
  dBox a0 fun tc_1 => wNew (.cells tc_1 0) .ptr H nx fun t1_2 H1 nx1 =>
  wJoin (fun tj_3 =>
    wFld t1_2 0 fun t5_5 =>
    wLd t5_5 none H1 fun t6_6 =>
    wBin .lss t6_6 (.int .i64 0) fun t7_7 =>
    wGuard false t7_7 (
      wFld t1_2 0 fun t9_8 =>
      wLd t9_8 none H1 fun t10_9 =>
      wBin .gtr t10_9 (.int .i64 32) fun t11_10 =>
      tj_3 [t11_10] H1 nx1) (
      tj_3 [(.bool true)] H1 nx1)) (fun tL_4 H2 nx2 =>
    wIf (tL_4.getD 0 undef) (
      forceV (.int .i64 3) fun tv_11 => k tv_11 H2 nx2) (
      wFld t1_2 1 fun t13_12 =>
      wLd t13_12 none H2 fun t14_13 =>
      wLen t14_13 0 H2 fun t15_14 =>
      wBin .gtr t15_14 (.int .i64 64) fun t16_15 =>
      wIf t16_15 (
        forceV (.int .i64 12) fun tv_16 => k tv_16 H2 nx2) (
        wFld t1_2 1 fun t17_17 =>
        wLd t17_17 none H2 fun t18_18 =>
        wLen t18_18 0 H2 fun t19_19 =>
        wLoop (fun tih_20 tL_21 H3 nx3 =>
          wBin .lss (tL_21.getD 0 undef) t19_19 fun t21_22 =>
          wIf t21_22 (
            wIdx t18_18 (tL_21.getD 0 undef) none 1 fun t22_23 =>
            wLd t22_23 none H3 fun t23_24 =>
            wFld t1_2 0 fun t25_25 =>
            wLd t25_25 none H3 fun t26_26 =>
            wCall Tryz.prog 33 [t26_26] H3 nx3 fun t27_27 H4 nx4 =>
            wBin .andNot t23_24 t27_27 fun t28_28 =>
            wBin .neq t28_28 (.int .u32 0) fun t29_29 =>
            wIf t29_29 (
              forceV (.int .i64 1) fun tv_30 => k tv_30 H4 nx4) (
              wBin .add (tL_21.getD 0 undef) (.int .i64 1) fun t30_31 =>
              tih_20 [t30_31] H4 nx4)) (
            forceV (.int .i64 0) fun tv_32 => k tv_32 H3 nx3)) [(.int .i64 0)] H2 nx2)))
theorem eq15 (a0 : Value) (H : Heap) (nx : Nat) (k : EP) : wBody Tryz.prog 31 5 d15 [(.s 2, none)] [a0] H nx k = F15 a0 H nx k := by kernel_rfl
theorem spec15 {a0 : Value} {H : Heap} {nx : Nat} {k : EP} (h : F15 a0 H nx k) : Ans Tryz.prog 15 [a0] H nx k :=
  spec_of_body mixed namesOK cfn15 ok15 (by simp) ((eq15 a0 H nx k).symm ▸ h)

/-! 33: ordinal/hypergraph.below -/
def d33 : D :=
  (.seq
    (.ops [
        (none, [⟨none, some 2, .p (.mv (.c (.int .u32 0)))⟩])] (.one .nil))
    (.seq
      (.ops [
          (none, [⟨none, some 3, .p (.mv (.s 0))⟩,
          ⟨none, some 4, .p (.bin .shl (.c (.int .u64 1)) (.s 3))⟩,
          ⟨none, some 5, .p (.bin .sub (.s 4) (.c (.int .u64 1)))⟩,
          ⟨none, some 6, .r (.convI .u32 (.s 5))⟩,
          ⟨none, some 2, .p (.mv (.s 6))⟩])] (.one .nil))
      .ret))
theorem cfn33 : cfn Tryz.prog 33 = some ⟨7, 3, d33.erase, [(.s 2, none)]⟩ := by kernel_rfl
theorem ok33 : d33.ok 7 3 = true := by kernel_rfl
noncomputable def F33 (a0 : Value) (H : Heap) (nx : Nat) (k : EP) : Prop :=
  wBin .shl (.int .u64 1) a0 fun t4_1 =>
  wBin .sub t4_1 (.int .u64 1) fun t5_2 =>
  wConv .u32 t5_2 fun t6_3 =>
  forceV t6_3 fun tv_4 => k tv_4 H nx
theorem eq33 (a0 : Value) (H : Heap) (nx : Nat) (k : EP) : wBody Tryz.prog 7 3 d33 [(.s 2, none)] [a0] H nx k = F33 a0 H nx k := by kernel_rfl
theorem spec33 {a0 : Value} {H : Heap} {nx : Nat} {k : EP} (h : F33 a0 H nx k) : Ans Tryz.prog 33 [a0] H nx k :=
  spec_of_body mixed namesOK cfn33 ok33 (by simp) ((eq33 a0 H nx k).symm ▸ h)

/-! 37: ordinal/hypergraph.adjacency -/
def d37 : D :=
  (.seq
    (.ops [
        (none, [⟨none, some 1, .a (.box (.s 0))⟩,
        ⟨none, some 2, .a (.alloc [.int .u32 0, .int .u32 0, .int .u32 0, .int .u32 0, .int .u32 0, .int .u32 0, .int .u32 0, .int .u32 0, .int .u32 0, .int .u32 0, .int .u32 0, .int .u32 0, .int .u32 0, .int .u32 0, .int .u32 0, .int .u32 0, .int .u32 0, .int .u32 0, .int .u32 0, .int .u32 0, .int .u32 0, .int .u32 0, .int .u32 0, .int .u32 0, .int .u32 0, .int .u32 0, .int .u32 0, .int .u32 0, .int .u32 0, .int .u32 0, .int .u32 0, .int .u32 0])⟩])] (.one .nil))
    (.seq
      (.ops [
          (none, [⟨none, some 3, .a (.alloc [.int .u32 0, .int .u32 0, .int .u32 0, .int .u32 0, .int .u32 0, .int .u32 0, .int .u32 0, .int .u32 0, .int .u32 0, .int .u32 0, .int .u32 0, .int .u32 0, .int .u32 0, .int .u32 0, .int .u32 0, .int .u32 0, .int .u32 0, .int .u32 0, .int .u32 0, .int .u32 0, .int .u32 0, .int .u32 0, .int .u32 0, .int .u32 0, .int .u32 0, .int .u32 0, .int .u32 0, .int .u32 0, .int .u32 0, .int .u32 0, .int .u32 0, .int .u32 0])⟩])] (.one .nil))
      (.seq
        (.seq
          (.ops [
              (none, [⟨none, some 7, .p (.fld (.s 1) 1)⟩,
              ⟨none, some 8, .r (.ld (.s 7) none)⟩,
              ⟨none, some 9, .r (.len (.s 8) 0)⟩,
              ⟨none, some 10, .p (.mv (.c (.int .i64 0)))⟩])] (.one .nil))
          (.block 0
            (.loop [10] [5, 6, 11, 12, 13, 14, 15, 16, 17, 18, 19, 20, 21, 22, 23, 24, 25, 26, 27, 28, 29, 30, 31, 32, 33, 34]
              (.seq
                (.ops [
                    (none, [⟨none, some 11, .p (.bin .lss (.s 10) (.s 9))⟩])] (.one .nil))
                (.seq
                  (.cond (.s 11)
                    .skip
                    (.exit 0))
                  (.seq
                    (.block 1
                      (.seq
                        (.ops [
                            (none, [⟨none, some 12, .p (.idx (.s 8) (.s 10) none 1)⟩,
                            ⟨none, some 13, .r (.ld (.s 12) none)⟩,
                            ⟨none, some 5, .p (.mv (.s 13))⟩])] (.one .nil))
                        (.seq
                          (.ops [
                              (none, [⟨none, some 14, .p (.fld (.s 1) 0)⟩,
                              ⟨none, some 15, .r (.ld (.s 14) none)⟩,
                              ⟨none, some 16, .p (.mv (.c (.int .i64 0)))⟩])] (.one .nil))
                          (.block 2
                            (.loop [16] [6, 17, 18, 19, 20, 21, 22, 23, 24, 25, 26, 27, 28, 29, 30, 31, 32, 33]
                              (.seq
                                (.ops [
                                    (none, [⟨none, some 17, .p (.bin .lss (.s 16) (.s 15))⟩])] (.one .nil))
                                (.seq
                                  (.cond (.s 17)
                                    .skip
                                    (.exit 2))
                                  (.join [] [6, 18, 19, 20, 21, 22, 23, 24, 25, 26, 27, 28, 29, 30, 31, 32]
                                    (.block 3
                                      (.seq
                                        (.ops [
                                            (none, [⟨none, some 18, .p (.mv (.s 16))⟩,
                                            ⟨none, some 6, .p (.mv (.s 18))⟩])] (.one .nil))
                                        (.seq
                                          (.ops [
                                              (none, [⟨none, some 19, .p (.mv (.s 5))⟩,
                                              ⟨none, some 20, .p (.mv (.s 6))⟩,
                                              ⟨none, some 21, .p (.bin .shr (.s 19) (.s 20))⟩,
                                              ⟨none, some 22, .p (.bin .and (.s 21) (.c (.int .u32 1)))⟩,
                                              ⟨none, some 23, .p (.bin .eql (.s 22) (.c (.int .u32 1)))⟩])] (.one .nil))
                                          (.cond (.s 23)
                                            (.draw [0, 1, 3, 0, 0, 16, 56, 127, 255, 511] [
                                                (none, [⟨none, some 24, .p (.mv (.s 6))⟩,
                                                ⟨none, some 25, .p (.idx (.s 3) (.s 24) (some 32) 1)⟩,
                                                ⟨none, some 26, .r (.ld (.s 25) none)⟩,
                                                ⟨none, some 27, .p (.mv (.s 5))⟩,
                                                ⟨none, some 28, .p (.mv (.s 6))⟩,
                                                ⟨none, some 29, .p (.bin .shl (.c (.int .u32 1)) (.s 28))⟩,
                                                ⟨none, some 30, .p (.bin .andNot (.s 27) (.s 29))⟩,
                                                ⟨none, some 31, .p (.bin .or (.s 26) (.s 30))⟩,
                                                ⟨none, some 32, .p (.idx (.s 3) (.s 24) (some 32) 1)⟩,
                                                ⟨none, none, .e (.st (.s 32) (.s 31) 1)⟩])] (.one .nil))
                                            .skip))))
                                    (.ops [
                                        (none, [⟨none, some 33, .p (.bin .add (.s 16) (.c (.int .i64 1)))⟩,
                                        ⟨none, some 16, .p (.mv (.s 33))⟩])] (.one .nil))))))))))
                    (.ops [
                        (none, [⟨none, some 34, .p (.bin .add (.s 10) (.c (.int .i64 1)))⟩,
                        ⟨none, some 10, .p (.mv (.s 34))⟩])] (.one .nil))))))))
        (.seq
          (.ops [
              (none, [⟨none, some 35, .r (.ld (.s 3) (some 32))⟩,
              ⟨none, none, .e (.st (.s 2) (.s 35) 32)⟩])] (.one .nil))
          .ret))))
theorem cfn37 : cfn Tryz.prog 37 = some ⟨36, 6, d37.erase, [(.s 2, some (some 32))]⟩ := by kernel_rfl
theorem ok37 : d37.ok 36 6 = true := by kernel_rfl
noncomputable def F37 (a0 : Value) (H : Heap) (nx : Nat) (k : EP) : Prop :=
  dBox a0 fun tc_1 => wNew (.cells tc_1 0) .ptr H nx fun t1_2 H1 nx1 =>
  wNew (.cells [.int .u32 0, .int .u32 0, .int .u32 0, .int .u32 0, .int .u32 0, .int .u32 0, .int .u32 0, .int .u32 0, .int .u32 0, .int .u32 0, .int .u32 0, .int .u32 0, .int .u32 0, .int .u32 0, .int .u32 0, .int .u32 0, .int .u32 0, .int .u32 0, .int .u32 0, .int .u32 0, .int .u32 0, .int .u32 0, .int .u32 0, .int .u32 0, .int .u32 0, .int .u32 0, .int .u32 0, .int .u32 0, .int .u32 0, .int .u32 0, .int .u32 0, .int .u32 0] 0) .ptr H1 nx1 fun t2_3 H2 nx2 =>
  wNew (.cells [.int .u32 0, .int .u32 0, .int .u32 0, .int .u32 0, .int .u32 0, .int .u32 0, .int .u32 0, .int .u32 0, .int .u32 0, .int .u32 0, .int .u32 0, .int .u32 0, .int .u32 0, .int .u32 0, .int .u32 0, .int .u32 0, .int .u32 0, .int .u32 0, .int .u32 0, .int .u32 0, .int .u32 0, .int .u32 0, .int .u32 0, .int .u32 0, .int .u32 0, .int .u32 0, .int .u32 0, .int .u32 0, .int .u32 0, .int .u32 0, .int .u32 0, .int .u32 0] 0) .ptr H2 nx2 fun t3_4 H3 nx3 =>
  wFld t1_2 1 fun t7_5 =>
  wLd t7_5 none H3 fun t8_6 =>
  wLen t8_6 0 H3 fun t9_7 =>
  wLoop (fun tih_8 tL_9 H4 nx4 =>
    wBin .lss (tL_9.getD 0 undef) t9_7 fun t11_10 =>
    wIf t11_10 (
      wIdx t8_6 (tL_9.getD 0 undef) none 1 fun t12_11 =>
      wLd t12_11 none H4 fun t13_12 =>
      wFld t1_2 0 fun t14_13 =>
      wLd t14_13 none H4 fun t15_14 =>
      wLoop (fun tih_15 tL_16 H5 nx5 =>
        wBin .lss (tL_16.getD 0 undef) t15_14 fun t17_17 =>
        wIf t17_17 (
          wJoin (fun tj_18 =>
            wBin .shr t13_12 (tL_16.getD 0 undef) fun t21_20 =>
            wBin .and t21_20 (.int .u32 1) fun t22_21 =>
            wBin .eql t22_21 (.int .u32 1) fun t23_22 =>
            wIf t23_22 (
              forceN (nx5 + 10) fun nx7 =>
              wIdx t3_4 (tL_16.getD 0 undef) (some 32) 1 fun t25_23 =>
              wLd t25_23 none H5 fun t26_24 =>
              wBin .shl (.int .u32 1) (tL_16.getD 0 undef) fun t29_25 =>
              wBin .andNot t13_12 t29_25 fun t30_26 =>
              wBin .or t26_24 t30_26 fun t31_27 =>
              wIdx t3_4 (tL_16.getD 0 undef) (some 32) 1 fun t32_28 =>
              wSt t32_28 t31_27 1 H5 fun H8 =>
              (((((True) ∧ ((wLd t25_23 none H5 fun tq_29 => tq_29 = t26_24) ∧ True)) ∧ True)) ∧ (
                tj_18 [] H8 nx7)) ∨ False) (
              tj_18 [] H5 nx5)) (fun tL_19 H6 nx6 =>
            wBin .add (tL_16.getD 0 undef) (.int .i64 1) fun t33_30 =>
            tih_15 [t33_30] H6 nx6)) (
          wBin .add (tL_9.getD 0 undef) (.int .i64 1) fun t34_31 =>
          tih_8 [t34_31] H5 nx5)) [(.int .i64 0)] H4 nx4) (
      wLd t3_4 (some 32) H4 fun t35_32 =>
      wSt t2_3 t35_32 32 H4 fun H9 =>
      wLd t2_3 (some 32) H9 fun tr_33 =>
      forceV tr_33 fun tv_34 => k tv_34 H9 nx4)) [(.int .i64 0)] H3 nx3
theorem eq37 (a0 : Value) (H : Heap) (nx : Nat) (k : EP) : wBody Tryz.prog 36 6 d37 [(.s 2, some (some 32))] [a0] H nx k = F37 a0 H nx k := by kernel_rfl
theorem spec37 {a0 : Value} {H : Heap} {nx : Nat} {k : EP} (h : F37 a0 H nx k) : Ans Tryz.prog 37 [a0] H nx k :=
  spec_of_body mixed namesOK cfn37 ok37 (by simp) ((eq37 a0 H nx k).symm ▸ h)

/-! 42: ordinal/hypergraph.Neighbors -/
def d42 : D :=
  (.seq
    (.ops [
        (none, [⟨none, some 2, .a (.box (.s 0))⟩,
        ⟨none, some 4, .p (.mv (.c (.int .u32 0)))⟩])] (.one .nil))
    (.seq
      (.join [17] [5, 6, 7, 8, 9, 10, 11, 12, 13, 14, 15, 16]
        (.ops [
            (none, [⟨none, some 5, .r (.ld (.s 2) (some 2))⟩,
            ⟨none, some 6, .e (.call (.c (.func (.func 15) ⟨[]⟩ ⟨[]⟩)) [.s 5])⟩,
            ⟨none, some 7, .p (.bin .neq (.s 6) (.c (.int .i64 0)))⟩,
            ⟨none, some 8, .p (.mv (.s 7))⟩]),
            (some (8, false), [⟨none, some 9, .p (.mv (.s 1))⟩,
            ⟨none, some 10, .p (.bin .lss (.s 9) (.c (.int .i64 0)))⟩]),
            (none, [⟨none, some 11, .p (.pick (.s 8) (.c (.bool true)) (.s 10))⟩,
            ⟨none, some 12, .p (.mv (.s 11))⟩]),
            (some (12, false), [⟨none, some 13, .p (.mv (.s 1))⟩,
            ⟨none, some 14, .p (.fld (.s 2) 0)⟩,
            ⟨none, some 15, .r (.ld (.s 14) none)⟩,
            ⟨none, some 16, .p (.bin .geq (.s 13) (.s 15))⟩]),
            (none, [⟨none, some 17, .p (.pick (.s 12) (.c (.bool true)) (.s 16))⟩])] (.one (.tst (.one (.tst (.one .nil) (.one .nil))) (.one (.one (.one .nil))))))
        (.cond (.s 17)
          (.seq
            (.ops [
                (none, [⟨none, some 4, .p (.mv (.c (.int .u32 0)))⟩])] (.one .nil))
            .ret)
          .skip))
      (.seq
        (.ops [
            (none, [⟨none, some 18, .r (.ld (.s 2) (some 2))⟩,
            ⟨none, some 19, .e (.call (.c (.func (.func 37) ⟨[]⟩ ⟨[]⟩)) [.s 18])⟩,
            ⟨none, some 20, .p (.mv (.s 1))⟩,
            ⟨none, some 21, .p (.aidx (.s 19) (.s 20) 32 1 false)⟩,
            ⟨none, some 4, .p (.mv (.s 21))⟩])] (.one .nil))
        .ret)))
theorem cfn42 : cfn Tryz.prog 42 = some ⟨22, 5, d42.erase, [(.s 4, none)]⟩ := by kernel_rfl
theorem ok42 : d42.ok 22 5 = true := by kernel_rfl
noncomputable def F42 (a0 a1 : Value) (H : Heap) (nx : Nat) (k : EP) : Prop :=
  dBox a0 fun tc_1 => wNew (.cells tc_1 0) .ptr H nx fun t2_2 H1 nx1 =>
  wJoin (fun tj_3 =>
    wLd t2_2 (some 2) H1 fun t5_5 =>
    wCall Tryz.prog 15 [t5_5] H1 nx1 fun t6_6 H3 nx3 =>
    wBin .neq t6_6 (.int .i64 0) fun t7_7 =>
    wGuard false t7_7 (
      wBin .lss a1 (.int .i64 0) fun t10_8 =>
      wGuard false t10_8 (
        wFld t2_2 0 fun t14_9 =>
        wLd t14_9 none H3 fun t15_10 =>
        wBin .geq a1 t15_10 fun t16_11 =>
        tj_3 [t16_11] H3 nx3) (
        tj_3 [(.bool true)] H3 nx3)) (
        tj_3 [(.bool true)] H3 nx3)) (fun tL_4 H2 nx2 =>
    wIf (tL_4.getD 0 undef) (
      forceV (.int .u32 0) fun tv_12 => k tv_12 H2 nx2) (
      wLd t2_2 (some 2) H2 fun t18_13 =>
      wCall Tryz.prog 37 [t18_13] H2 nx2 fun t19_14 H4 nx4 =>
      wAidx t19_14 a1 32 1 false fun t21_15 =>
      forceV t21_15 fun tv_16 => k tv_16 H4 nx4))
theorem eq42 (a0 a1 : Value) (H : Heap) (nx : Nat) (k : EP) : wBody Tryz.prog 22 5 d42 [(.s 4, none)] [a0, a1] H nx k = F42 a0 a1 H nx k := by kernel_rfl
theorem spec42 {a0 a1 : Value} {H : Heap} {nx : Nat} {k : EP} (h : F42 a0 a1 H nx k) : Ans Tryz.prog 42 [a0, a1] H nx k :=
  spec_of_body mixed namesOK cfn42 ok42 (by simp) ((eq42 a0 a1 H nx k).symm ▸ h)

/-! 69: ordinal/elimination.checkFree -/
def d69 : D :=
  (.seq
    (.ops [
        (none, [⟨none, some 2, .a (.box (.s 0))⟩,
        ⟨none, some 4, .p (.mv (.c (.int .i64 0)))⟩])] (.one .nil))
    (.seq
      (.seq
        (.ops [
            (none, [⟨none, some 6, .r (.ld (.s 2) (some 2))⟩,
            ⟨none, some 7, .e (.call (.c (.func (.func 15) ⟨[]⟩ ⟨[]⟩)) [.s 6])⟩,
            ⟨none, some 5, .p (.mv (.s 7))⟩])] (.one .nil))
        (.seq
          (.ops [
              (none, [⟨none, some 8, .p (.mv (.s 5))⟩,
              ⟨none, some 9, .p (.bin .neq (.s 8) (.c (.int .i64 0)))⟩])] (.one .nil))
          (.cond (.s 9)
            (.seq
              (.ops [
                  (none, [⟨none, some 10, .p (.mv (.s 5))⟩,
                  ⟨none, some 4, .p (.mv (.s 10))⟩])] (.one .nil))
              .ret)
            .skip)))
      (.seq
        (.join [18] [11, 12, 13, 14, 15, 16, 17]
          (.ops [
              (none, [⟨none, some 11, .p (.mv (.s 1))⟩,
              ⟨none, some 12, .p (.bin .lss (.s 11) (.c (.int .i64 0)))⟩,
              ⟨none, some 13, .p (.mv (.s 12))⟩]),
              (some (13, false), [⟨none, some 14, .p (.mv (.s 1))⟩,
              ⟨none, some 15, .p (.fld (.s 2) 0)⟩,
              ⟨none, some 16, .r (.ld (.s 15) none)⟩,
              ⟨none, some 17, .p (.bin .gtr (.s 14) (.s 16))⟩]),
              (none, [⟨none, some 18, .p (.pick (.s 13) (.c (.bool true)) (.s 17))⟩])] (.one (.tst (.one .nil) (.one .nil))))
          (.cond (.s 18)
            (.seq
              (.ops [
                  (none, [⟨none, some 4, .p (.mv (.c (.int .i64 3)))⟩])] (.one .nil))
              .ret)
            .skip))
        (.seq
          (.ops [
              (none, [⟨none, some 4, .p (.mv (.c (.int .i64 0)))⟩])] (.one .nil))
          .ret))))
theorem cfn69 : cfn Tryz.prog 69 = some ⟨19, 5, d69.erase, [(.s 4, none)]⟩ := by kernel_rfl
theorem ok69 : d69.ok 19 5 = true := by kernel_rfl
noncomputable def F69 (a0 a1 : Value) (H : Heap) (nx : Nat) (k : EP) : Prop :=
  dBox a0 fun tc_1 => wNew (.cells tc_1 0) .ptr H nx fun t2_2 H1 nx1 =>
  wLd t2_2 (some 2) H1 fun t6_3 =>
  wCall Tryz.prog 15 [t6_3] H1 nx1 fun t7_4 H2 nx2 =>
  wBin .neq t7_4 (.int .i64 0) fun t9_5 =>
  wIf t9_5 (
    forceV t7_4 fun tv_6 => k tv_6 H2 nx2) (
    wJoin (fun tj_7 =>
      wBin .lss a1 (.int .i64 0) fun t12_9 =>
      wGuard false t12_9 (
        wFld t2_2 0 fun t15_10 =>
        wLd t15_10 none H2 fun t16_11 =>
        wBin .gtr a1 t16_11 fun t17_12 =>
        tj_7 [t17_12] H2 nx2) (
        tj_7 [(.bool true)] H2 nx2)) (fun tL_8 H3 nx3 =>
      wIf (tL_8.getD 0 undef) (
        forceV (.int .i64 3) fun tv_13 => k tv_13 H3 nx3) (
        forceV (.int .i64 0) fun tv_14 => k tv_14 H3 nx3)))
theorem eq69 (a0 a1 : Value) (H : Heap) (nx : Nat) (k : EP) : wBody Tryz.prog 19 5 d69 [(.s 4, none)] [a0, a1] H nx k = F69 a0 a1 H nx k := by kernel_rfl
theorem spec69 {a0 a1 : Value} {H : Heap} {nx : Nat} {k : EP} (h : F69 a0 a1 H nx k) : Ans Tryz.prog 69 [a0, a1] H nx k :=
  spec_of_body mixed namesOK cfn69 ok69 (by simp) ((eq69 a0 a1 H nx k).symm ▸ h)

/-! 70: ordinal/elimination.below -/
def d70 : D :=
  (.seq
    (.ops [
        (none, [⟨none, some 2, .p (.mv (.c (.int .u32 0)))⟩])] (.one .nil))
    (.seq
      (.ops [
          (none, [⟨none, some 3, .p (.mv (.s 0))⟩,
          ⟨none, some 4, .p (.bin .shl (.c (.int .u64 1)) (.s 3))⟩,
          ⟨none, some 5, .p (.bin .sub (.s 4) (.c (.int .u64 1)))⟩,
          ⟨none, some 6, .r (.convI .u32 (.s 5))⟩,
          ⟨none, some 2, .p (.mv (.s 6))⟩])] (.one .nil))
      .ret))
theorem cfn70 : cfn Tryz.prog 70 = some ⟨7, 3, d70.erase, [(.s 2, none)]⟩ := by kernel_rfl
theorem ok70 : d70.ok 7 3 = true := by kernel_rfl
noncomputable def F70 (a0 : Value) (H : Heap) (nx : Nat) (k : EP) : Prop :=
  wBin .shl (.int .u64 1) a0 fun t4_1 =>
  wBin .sub t4_1 (.int .u64 1) fun t5_2 =>
  wConv .u32 t5_2 fun t6_3 =>
  forceV t6_3 fun tv_4 => k tv_4 H nx
theorem eq70 (a0 : Value) (H : Heap) (nx : Nat) (k : EP) : wBody Tryz.prog 7 3 d70 [(.s 2, none)] [a0] H nx k = F70 a0 H nx k := by kernel_rfl
theorem spec70 {a0 : Value} {H : Heap} {nx : Nat} {k : EP} (h : F70 a0 H nx k) : Ans Tryz.prog 70 [a0] H nx k :=
  spec_of_body mixed namesOK cfn70 ok70 (by simp) ((eq70 a0 H nx k).symm ▸ h)

/-! 71: ordinal/elimination.adjacency -/
def d71 : D :=
  (.seq
    (.ops [
        (none, [⟨none, some 1, .a (.box (.s 0))⟩,
        ⟨none, some 2, .a (.alloc [.int .u32 0, .int .u32 0, .int .u32 0, .int .u32 0, .int .u32 0, .int .u32 0, .int .u32 0, .int .u32 0, .int .u32 0, .int .u32 0, .int .u32 0, .int .u32 0, .int .u32 0, .int .u32 0, .int .u32 0, .int .u32 0, .int .u32 0, .int .u32 0, .int .u32 0, .int .u32 0, .int .u32 0, .int .u32 0, .int .u32 0, .int .u32 0, .int .u32 0, .int .u32 0, .int .u32 0, .int .u32 0, .int .u32 0, .int .u32 0, .int .u32 0, .int .u32 0])⟩])] (.one .nil))
    (.seq
      (.ops [
          (none, [⟨none, some 3, .a (.alloc [.int .u32 0, .int .u32 0, .int .u32 0, .int .u32 0, .int .u32 0, .int .u32 0, .int .u32 0, .int .u32 0, .int .u32 0, .int .u32 0, .int .u32 0, .int .u32 0, .int .u32 0, .int .u32 0, .int .u32 0, .int .u32 0, .int .u32 0, .int .u32 0, .int .u32 0, .int .u32 0, .int .u32 0, .int .u32 0, .int .u32 0, .int .u32 0, .int .u32 0, .int .u32 0, .int .u32 0, .int .u32 0, .int .u32 0, .int .u32 0, .int .u32 0, .int .u32 0])⟩])] (.one .nil))
      (.seq
        (.seq
          (.ops [
              (none, [⟨none, some 5, .p (.fld (.s 1) 0)⟩,
              ⟨none, some 6, .r (.ld (.s 5) none)⟩,
              ⟨none, some 7, .p (.mv (.c (.int .i64 0)))⟩])] (.one .nil))
          (.block 0
            (.loop [7] [4, 8, 9, 10, 11, 12, 13, 14, 15]
              (.seq
                (.ops [
                    (none, [⟨none, some 8, .p (.bin .lss (.s 7) (.s 6))⟩])] (.one .nil))
                (.seq
                  (.cond (.s 8)
                    .skip
                    (.exit 0))
                  (.seq
                    (.block 1
                      (.seq
                        (.ops [
                            (none, [⟨none, some 9, .p (.mv (.s 7))⟩,
                            ⟨none, some 4, .p (.mv (.s 9))⟩])] (.one .nil))
                        (.ops [
                            (none, [⟨none, some 10, .p (.mv (.s 4))⟩,
                            ⟨none, some 11, .r (.ld (.s 1) (some 2))⟩,
                            ⟨none, some 12, .p (.mv (.s 4))⟩,
                            ⟨none, some 13, .e (.call (.c (.func (.func 42) ⟨[]⟩ ⟨[]⟩)) [.s 11, .s 12])⟩,
                            ⟨none, some 14, .p (.idx (.s 3) (.s 10) (some 32) 1)⟩,
                            ⟨none, none, .e (.st (.s 14) (.s 13) 1)⟩])] (.one .nil))))
                    (.ops [
                        (none, [⟨none, some 15, .p (.bin .add (.s 7) (.c (.int .i64 1)))⟩,
                        ⟨none, some 7, .p (.mv (.s 15))⟩])] (.one .nil))))))))
        (.seq
          (.ops [
              (none, [⟨none, some 16, .r (.ld (.s 3) (some 32))⟩,
              ⟨none, none, .e (.st (.s 2) (.s 16) 32)⟩])] (.one .nil))
          .ret))))
theorem cfn71 : cfn Tryz.prog 71 = some ⟨17, 5, d71.erase, [(.s 2, some (some 32))]⟩ := by kernel_rfl
theorem ok71 : d71.ok 17 5 = true := by kernel_rfl
noncomputable def F71 (a0 : Value) (H : Heap) (nx : Nat) (k : EP) : Prop :=
  dBox a0 fun tc_1 => wNew (.cells tc_1 0) .ptr H nx fun t1_2 H1 nx1 =>
  wNew (.cells [.int .u32 0, .int .u32 0, .int .u32 0, .int .u32 0, .int .u32 0, .int .u32 0, .int .u32 0, .int .u32 0, .int .u32 0, .int .u32 0, .int .u32 0, .int .u32 0, .int .u32 0, .int .u32 0, .int .u32 0, .int .u32 0, .int .u32 0, .int .u32 0, .int .u32 0, .int .u32 0, .int .u32 0, .int .u32 0, .int .u32 0, .int .u32 0, .int .u32 0, .int .u32 0, .int .u32 0, .int .u32 0, .int .u32 0, .int .u32 0, .int .u32 0, .int .u32 0] 0) .ptr H1 nx1 fun t2_3 H2 nx2 =>
  wNew (.cells [.int .u32 0, .int .u32 0, .int .u32 0, .int .u32 0, .int .u32 0, .int .u32 0, .int .u32 0, .int .u32 0, .int .u32 0, .int .u32 0, .int .u32 0, .int .u32 0, .int .u32 0, .int .u32 0, .int .u32 0, .int .u32 0, .int .u32 0, .int .u32 0, .int .u32 0, .int .u32 0, .int .u32 0, .int .u32 0, .int .u32 0, .int .u32 0, .int .u32 0, .int .u32 0, .int .u32 0, .int .u32 0, .int .u32 0, .int .u32 0, .int .u32 0, .int .u32 0] 0) .ptr H2 nx2 fun t3_4 H3 nx3 =>
  wFld t1_2 0 fun t5_5 =>
  wLd t5_5 none H3 fun t6_6 =>
  wLoop (fun tih_7 tL_8 H4 nx4 =>
    wBin .lss (tL_8.getD 0 undef) t6_6 fun t8_9 =>
    wIf t8_9 (
      wLd t1_2 (some 2) H4 fun t11_10 =>
      wCall Tryz.prog 42 [t11_10, (tL_8.getD 0 undef)] H4 nx4 fun t13_11 H5 nx5 =>
      wIdx t3_4 (tL_8.getD 0 undef) (some 32) 1 fun t14_12 =>
      wSt t14_12 t13_11 1 H5 fun H6 =>
      wBin .add (tL_8.getD 0 undef) (.int .i64 1) fun t15_13 =>
      tih_7 [t15_13] H6 nx5) (
      wLd t3_4 (some 32) H4 fun t16_14 =>
      wSt t2_3 t16_14 32 H4 fun H7 =>
      wLd t2_3 (some 32) H7 fun tr_15 =>
      forceV tr_15 fun tv_16 => k tv_16 H7 nx4)) [(.int .i64 0)] H3 nx3
theorem eq71 (a0 : Value) (H : Heap) (nx : Nat) (k : EP) : wBody Tryz.prog 17 5 d71 [(.s 2, some (some 32))] [a0] H nx k = F71 a0 H nx k := by kernel_rfl
theorem spec71 {a0 : Value} {H : Heap} {nx : Nat} {k : EP} (h : F71 a0 H nx k) : Ans Tryz.prog 71 [a0] H nx k :=
  spec_of_body mixed namesOK cfn71 ok71 (by simp) ((eq71 a0 H nx k).symm ▸ h)

/-! 63: ordinal/elimination.Set -/
def d63 : D :=
  (.seq
    (.ops [
        (none, [⟨none, some 1, .a (.box (.s 0))⟩,
        ⟨none, some 2, .p (.mv (.c (.int .u32 0)))⟩])] (.one .nil))
    (.seq
      (.join [10] [3, 4, 5, 6, 7, 8, 9]
        (.ops [
            (none, [⟨none, some 3, .p (.fld (.s 1) 0)⟩,
            ⟨none, some 4, .r (.ld (.s 3) none)⟩,
            ⟨none, some 5, .p (.bin .lss (.s 4) (.c (.int .i64 0)))⟩,
            ⟨none, some 6, .p (.mv (.s 5))⟩]),
            (some (6, false), [⟨none, some 7, .p (.fld (.s 1) 0)⟩,
            ⟨none, some 8, .r (.ld (.s 7) none)⟩,
            ⟨none, some 9, .p (.bin .geq (.s 8) (.c (.int .i64 32)))⟩]),
            (none, [⟨none, some 10, .p (.pick (.s 6) (.c (.bool true)) (.s 9))⟩])] (.one (.tst (.one .nil) (.one .nil))))
        (.cond (.s 10)
          (.seq
            (.ops [
                (none, [⟨none, some 11, .p (.fld (.s 1) 1)⟩,
                ⟨none, some 12, .r (.ld (.s 11) none)⟩,
                ⟨none, some 2, .p (.mv (.s 12))⟩])] (.one .nil))
            .ret)
          .skip))
      (.seq
        (.draw [0, 1, 0, 4, 12, 31, 63] [
            (none, [⟨none, some 13, .p (.fld (.s 1) 1)⟩,
            ⟨none, some 14, .r (.ld (.s 13) none)⟩,
            ⟨none, some 15, .p (.fld (.s 1) 0)⟩,
            ⟨none, some 16, .r (.ld (.s 15) none)⟩,
            ⟨none, some 17, .p (.bin .shl (.c (.int .u32 1)) (.s 16))⟩,
            ⟨none, some 18, .p (.bin .or (.s 14) (.s 17))⟩,
            ⟨none, some 2, .p (.mv (.s 18))⟩])] (.one .nil))
        .ret)))
theorem cfn63 : cfn Tryz.prog 63 = some ⟨19, 5, d63.erase, [(.s 2, none)]⟩ := by kernel_rfl
theorem ok63 : d63.ok 19 5 = true := by kernel_rfl
noncomputable def F63 (a0 : Value) (H : Heap) (nx : Nat) (k : EP) : Prop :=
  dBox a0 fun tc_1 => wNew (.cells tc_1 0) .ptr H nx fun t1_2 H1 nx1 =>
  wJoin (fun tj_3 =>
    wFld t1_2 0 fun t3_5 =>
    wLd t3_5 none H1 fun t4_6 =>
    wBin .lss t4_6 (.int .i64 0) fun t5_7 =>
    wGuard false t5_7 (
      wFld t1_2 0 fun t7_8 =>
      wLd t7_8 none H1 fun t8_9 =>
      wBin .geq t8_9 (.int .i64 32) fun t9_10 =>
      tj_3 [t9_10] H1 nx1) (
      tj_3 [(.bool true)] H1 nx1)) (fun tL_4 H2 nx2 =>
    wIf (tL_4.getD 0 undef) (
      wFld t1_2 1 fun t11_11 =>
      wLd t11_11 none H2 fun t12_12 =>
      forceV t12_12 fun tv_13 => k tv_13 H2 nx2) (
      forceN (nx2 + 7) fun nx3 =>
      wFld t1_2 1 fun t13_14 =>
      wLd t13_14 none H2 fun t14_15 =>
      wFld t1_2 0 fun t15_16 =>
      wLd t15_16 none H2 fun t16_17 =>
      wBin .shl (.int .u32 1) t16_17 fun t17_18 =>
      wBin .or t14_15 t17_18 fun t18_19 =>
      (((((wLd t15_16 none H2 fun tq_21 => tq_21 = t16_17) ∧ True) ∧ (((wLd t13_14 none H2 fun tq_20 => tq_20 = t14_15) ∧ True) ∧ True))) ∧ (
        forceV t18_19 fun tv_22 => k tv_22 H2 nx3)) ∨ False))
theorem eq63 (a0 : Value) (H : Heap) (nx : Nat) (k : EP) : wBody Tryz.prog 19 5 d63 [(.s 2, none)] [a0] H nx k = F63 a0 H nx k := by kernel_rfl
theorem spec63 {a0 : Value} {H : Heap} {nx : Nat} {k : EP} (h : F63 a0 H nx k) : Ans Tryz.prog 63 [a0] H nx k :=
  spec_of_body mixed namesOK cfn63 ok63 (by simp) ((eq63 a0 H nx k).symm ▸ h)

/-! 39: ordinal/connex.checkFree -/
def d39 : D :=
  (.seq
    (.ops [
        (none, [⟨none, some 2, .a (.box (.s 0))⟩,
        ⟨none, some 4, .p (.mv (.c (.int .i64 0)))⟩])] (.one .nil))
    (.seq
      (.seq
        (.ops [
            (none, [⟨none, some 6, .r (.ld (.s 2) (some 2))⟩,
            ⟨none, some 7, .e (.call (.c (.func (.func 15) ⟨[]⟩ ⟨[]⟩)) [.s 6])⟩,
            ⟨none, some 5, .p (.mv (.s 7))⟩])] (.one .nil))
        (.seq
          (.ops [
              (none, [⟨none, some 8, .p (.mv (.s 5))⟩,
              ⟨none, some 9, .p (.bin .neq (.s 8) (.c (.int .i64 0)))⟩])] (.one .nil))
          (.cond (.s 9)
            (.seq
              (.ops [
                  (none, [⟨none, some 10, .p (.mv (.s 5))⟩,
                  ⟨none, some 4, .p (.mv (.s 10))⟩])] (.one .nil))
              .ret)
            .skip)))
      (.seq
        (.join [18] [11, 12, 13, 14, 15, 16, 17]
          (.ops [
              (none, [⟨none, some 11, .p (.mv (.s 1))⟩,
              ⟨none, some 12, .p (.bin .lss (.s 11) (.c (.int .i64 0)))⟩,
              ⟨none, some 13, .p (.mv (.s 12))⟩]),
              (some (13, false), [⟨none, some 14, .p (.mv (.s 1))⟩,
              ⟨none, some 15, .p (.fld (.s 2) 0)⟩,
              ⟨none, some 16, .r (.ld (.s 15) none)⟩,
              ⟨none, some 17, .p (.bin .gtr (.s 14) (.s 16))⟩]),
              (none, [⟨none, some 18, .p (.pick (.s 13) (.c (.bool true)) (.s 17))⟩])] (.one (.tst (.one .nil) (.one .nil))))
          (.cond (.s 18)
            (.seq
              (.ops [
                  (none, [⟨none, some 4, .p (.mv (.c (.int .i64 3)))⟩])] (.one .nil))
              .ret)
            .skip))
        (.seq
          (.ops [
              (none, [⟨none, some 4, .p (.mv (.c (.int .i64 0)))⟩])] (.one .nil))
          .ret))))
theorem cfn39 : cfn Tryz.prog 39 = some ⟨19, 5, d39.erase, [(.s 4, none)]⟩ := by kernel_rfl
theorem ok39 : d39.ok 19 5 = true := by kernel_rfl
noncomputable def F39 (a0 a1 : Value) (H : Heap) (nx : Nat) (k : EP) : Prop :=
  dBox a0 fun tc_1 => wNew (.cells tc_1 0) .ptr H nx fun t2_2 H1 nx1 =>
  wLd t2_2 (some 2) H1 fun t6_3 =>
  wCall Tryz.prog 15 [t6_3] H1 nx1 fun t7_4 H2 nx2 =>
  wBin .neq t7_4 (.int .i64 0) fun t9_5 =>
  wIf t9_5 (
    forceV t7_4 fun tv_6 => k tv_6 H2 nx2) (
    wJoin (fun tj_7 =>
      wBin .lss a1 (.int .i64 0) fun t12_9 =>
      wGuard false t12_9 (
        wFld t2_2 0 fun t15_10 =>
        wLd t15_10 none H2 fun t16_11 =>
        wBin .gtr a1 t16_11 fun t17_12 =>
        tj_7 [t17_12] H2 nx2) (
        tj_7 [(.bool true)] H2 nx2)) (fun tL_8 H3 nx3 =>
      wIf (tL_8.getD 0 undef) (
        forceV (.int .i64 3) fun tv_13 => k tv_13 H3 nx3) (
        forceV (.int .i64 0) fun tv_14 => k tv_14 H3 nx3)))
theorem eq39 (a0 a1 : Value) (H : Heap) (nx : Nat) (k : EP) : wBody Tryz.prog 19 5 d39 [(.s 4, none)] [a0, a1] H nx k = F39 a0 a1 H nx k := by kernel_rfl
theorem spec39 {a0 a1 : Value} {H : Heap} {nx : Nat} {k : EP} (h : F39 a0 a1 H nx k) : Ans Tryz.prog 39 [a0, a1] H nx k :=
  spec_of_body mixed namesOK cfn39 ok39 (by simp) ((eq39 a0 a1 H nx k).symm ▸ h)

/-! 40: ordinal/connex.adjacency -/
def d40 : D :=
  (.seq
    (.ops [
        (none, [⟨none, some 1, .a (.box (.s 0))⟩,
        ⟨none, some 2, .a (.alloc [.int .u32 0, .int .u32 0, .int .u32 0, .int .u32 0, .int .u32 0, .int .u32 0, .int .u32 0, .int .u32 0, .int .u32 0, .int .u32 0, .int .u32 0, .int .u32 0, .int .u32 0, .int .u32 0, .int .u32 0, .int .u32 0, .int .u32 0, .int .u32 0, .int .u32 0, .int .u32 0, .int .u32 0, .int .u32 0, .int .u32 0, .int .u32 0, .int .u32 0, .int .u32 0, .int .u32 0, .int .u32 0, .int .u32 0, .int .u32 0, .int .u32 0, .int .u32 0])⟩])] (.one .nil))
    (.seq
      (.ops [
          (none, [⟨none, some 3, .a (.alloc [.int .u32 0, .int .u32 0, .int .u32 0, .int .u32 0, .int .u32 0, .int .u32 0, .int .u32 0, .int .u32 0, .int .u32 0, .int .u32 0, .int .u32 0, .int .u32 0, .int .u32 0, .int .u32 0, .int .u32 0, .int .u32 0, .int .u32 0, .int .u32 0, .int .u32 0, .int .u32 0, .int .u32 0, .int .u32 0, .int .u32 0, .int .u32 0, .int .u32 0, .int .u32 0, .int .u32 0, .int .u32 0, .int .u32 0, .int .u32 0, .int .u32 0, .int .u32 0])⟩])] (.one .nil))
      (.seq
        (.seq
          (.ops [
              (none, [⟨none, some 5, .p (.fld (.s 1) 0)⟩,
              ⟨none, some 6, .r (.ld (.s 5) none)⟩,
              ⟨none, some 7, .p (.mv (.c (.int .i64 0)))⟩])] (.one .nil))
          (.block 0
            (.loop [7] [4, 8, 9, 10, 11, 12, 13, 14, 15]
              (.seq
                (.ops [
                    (none, [⟨none, some 8, .p (.bin .lss (.s 7) (.s 6))⟩])] (.one .nil))
                (.seq
                  (.cond (.s 8)
                    .skip
                    (.exit 0))
                  (.seq
                    (.block 1
                      (.seq
                        (.ops [
                            (none, [⟨none, some 9, .p (.mv (.s 7))⟩,
                            ⟨none, some 4, .p (.mv (.s 9))⟩])] (.one .nil))
                        (.ops [
                            (none, [⟨none, some 10, .p (.mv (.s 4))⟩,
                            ⟨none, some 11, .r (.ld (.s 1) (some 2))⟩,
                            ⟨none, some 12, .p (.mv (.s 4))⟩,
                            ⟨none, some 13, .e (.call (.c (.func (.func 42) ⟨[]⟩ ⟨[]⟩)) [.s 11, .s 12])⟩,
                            ⟨none, some 14, .p (.idx (.s 3) (.s 10) (some 32) 1)⟩,
                            ⟨none, none, .e (.st (.s 14) (.s 13) 1)⟩])] (.one .nil))))
                    (.ops [
                        (none, [⟨none, some 15, .p (.bin .add (.s 7) (.c (.int .i64 1)))⟩,
                        ⟨none, some 7, .p (.mv (.s 15))⟩])] (.one .nil))))))))
        (.seq
          (.ops [
              (none, [⟨none, some 16, .r (.ld (.s 3) (some 32))⟩,
              ⟨none, none, .e (.st (.s 2) (.s 16) 32)⟩])] (.one .nil))
          .ret))))
theorem cfn40 : cfn Tryz.prog 40 = some ⟨17, 5, d40.erase, [(.s 2, some (some 32))]⟩ := by kernel_rfl
theorem ok40 : d40.ok 17 5 = true := by kernel_rfl
noncomputable def F40 (a0 : Value) (H : Heap) (nx : Nat) (k : EP) : Prop :=
  dBox a0 fun tc_1 => wNew (.cells tc_1 0) .ptr H nx fun t1_2 H1 nx1 =>
  wNew (.cells [.int .u32 0, .int .u32 0, .int .u32 0, .int .u32 0, .int .u32 0, .int .u32 0, .int .u32 0, .int .u32 0, .int .u32 0, .int .u32 0, .int .u32 0, .int .u32 0, .int .u32 0, .int .u32 0, .int .u32 0, .int .u32 0, .int .u32 0, .int .u32 0, .int .u32 0, .int .u32 0, .int .u32 0, .int .u32 0, .int .u32 0, .int .u32 0, .int .u32 0, .int .u32 0, .int .u32 0, .int .u32 0, .int .u32 0, .int .u32 0, .int .u32 0, .int .u32 0] 0) .ptr H1 nx1 fun t2_3 H2 nx2 =>
  wNew (.cells [.int .u32 0, .int .u32 0, .int .u32 0, .int .u32 0, .int .u32 0, .int .u32 0, .int .u32 0, .int .u32 0, .int .u32 0, .int .u32 0, .int .u32 0, .int .u32 0, .int .u32 0, .int .u32 0, .int .u32 0, .int .u32 0, .int .u32 0, .int .u32 0, .int .u32 0, .int .u32 0, .int .u32 0, .int .u32 0, .int .u32 0, .int .u32 0, .int .u32 0, .int .u32 0, .int .u32 0, .int .u32 0, .int .u32 0, .int .u32 0, .int .u32 0, .int .u32 0] 0) .ptr H2 nx2 fun t3_4 H3 nx3 =>
  wFld t1_2 0 fun t5_5 =>
  wLd t5_5 none H3 fun t6_6 =>
  wLoop (fun tih_7 tL_8 H4 nx4 =>
    wBin .lss (tL_8.getD 0 undef) t6_6 fun t8_9 =>
    wIf t8_9 (
      wLd t1_2 (some 2) H4 fun t11_10 =>
      wCall Tryz.prog 42 [t11_10, (tL_8.getD 0 undef)] H4 nx4 fun t13_11 H5 nx5 =>
      wIdx t3_4 (tL_8.getD 0 undef) (some 32) 1 fun t14_12 =>
      wSt t14_12 t13_11 1 H5 fun H6 =>
      wBin .add (tL_8.getD 0 undef) (.int .i64 1) fun t15_13 =>
      tih_7 [t15_13] H6 nx5) (
      wLd t3_4 (some 32) H4 fun t16_14 =>
      wSt t2_3 t16_14 32 H4 fun H7 =>
      wLd t2_3 (some 32) H7 fun tr_15 =>
      forceV tr_15 fun tv_16 => k tv_16 H7 nx4)) [(.int .i64 0)] H3 nx3
theorem eq40 (a0 : Value) (H : Heap) (nx : Nat) (k : EP) : wBody Tryz.prog 17 5 d40 [(.s 2, some (some 32))] [a0] H nx k = F40 a0 H nx k := by kernel_rfl
theorem spec40 {a0 : Value} {H : Heap} {nx : Nat} {k : EP} (h : F40 a0 H nx k) : Ans Tryz.prog 40 [a0] H nx k :=
  spec_of_body mixed namesOK cfn40 ok40 (by simp) ((eq40 a0 H nx k).symm ▸ h)

/-! 41: ordinal/trio.valid -/
def d41 : D :=
  (.seq
    (.ops [
        (none, [⟨none, some 2, .a (.box (.s 0))⟩,
        ⟨none, some 4, .p (.mv (.c (.bool false)))⟩])] (.one .nil))
    (.seq
      (.ops [
          (none, [⟨none, some 5, .r (.ld (.s 2) (some 2))⟩,
          ⟨none, some 6, .e (.call (.c (.func (.func 15) ⟨[]⟩ ⟨[]⟩)) [.s 5])⟩,
          ⟨none, some 7, .p (.bin .eql (.s 6) (.c (.int .i64 0)))⟩,
          ⟨none, some 8, .p (.mv (.s 7))⟩]),
          (some (8, true), [⟨none, some 9, .p (.mv (.s 1))⟩,
          ⟨none, some 10, .p (.bin .geq (.s 9) (.c (.int .i64 0)))⟩]),
          (none, [⟨none, some 11, .p (.pick (.s 8) (.s 10) (.c (.bool false)))⟩,
          ⟨none, some 12, .p (.mv (.s 11))⟩]),
          (some (12, true), [⟨none, some 13, .p (.mv (.s 1))⟩,
          ⟨none, some 14, .p (.fld (.s 2) 0)⟩,
          ⟨none, some 15, .r (.ld (.s 14) none)⟩,
          ⟨none, some 16, .p (.bin .leq (.s 13) (.s 15))⟩]),
          (none, [⟨none, some 17, .p (.pick (.s 12) (.s 16) (.c (.bool false)))⟩,
          ⟨none, some 4, .p (.mv (.s 17))⟩])] (.one (.tst (.one (.tst (.one .nil) (.one .nil))) (.one (.one (.one .nil))))))
      .ret))
theorem cfn41 : cfn Tryz.prog 41 = some ⟨18, 5, d41.erase, [(.s 4, none)]⟩ := by kernel_rfl
theorem ok41 : d41.ok 18 5 = true := by kernel_rfl
noncomputable def F41 (a0 a1 : Value) (H : Heap) (nx : Nat) (k : EP) : Prop :=
  dBox a0 fun tc_1 => wNew (.cells tc_1 0) .ptr H nx fun t2_2 H1 nx1 =>
  wLd t2_2 (some 2) H1 fun t5_3 =>
  wCall Tryz.prog 15 [t5_3] H1 nx1 fun t6_4 H2 nx2 =>
  wBin .eql t6_4 (.int .i64 0) fun t7_5 =>
  wGuard true t7_5 (
    wBin .geq a1 (.int .i64 0) fun t10_6 =>
    wGuard true t10_6 (
      wFld t2_2 0 fun t14_7 =>
      wLd t14_7 none H2 fun t15_8 =>
      wBin .leq a1 t15_8 fun t16_9 =>
      forceV t16_9 fun tv_10 => k tv_10 H2 nx2) (
      forceV (.bool false) fun tv_11 => k tv_11 H2 nx2)) (
      forceV (.bool false) fun tv_12 => k tv_12 H2 nx2)
theorem eq41 (a0 a1 : Value) (H : Heap) (nx : Nat) (k : EP) : wBody Tryz.prog 18 5 d41 [(.s 4, none)] [a0, a1] H nx k = F41 a0 a1 H nx k := by kernel_rfl
theorem spec41 {a0 a1 : Value} {H : Heap} {nx : Nat} {k : EP} (h : F41 a0 a1 H nx k) : Ans Tryz.prog 41 [a0, a1] H nx k :=
  spec_of_body mixed namesOK cfn41 ok41 (by simp) ((eq41 a0 a1 H nx k).symm ▸ h)

/-! 50: ordinal/connex.below -/
def d50 : D :=
  (.seq
    (.ops [
        (none, [⟨none, some 2, .p (.mv (.c (.int .u32 0)))⟩])] (.one .nil))
    (.seq
      (.ops [
          (none, [⟨none, some 3, .p (.mv (.s 0))⟩,
          ⟨none, some 4, .p (.bin .shl (.c (.int .u64 1)) (.s 3))⟩,
          ⟨none, some 5, .p (.bin .sub (.s 4) (.c (.int .u64 1)))⟩,
          ⟨none, some 6, .r (.convI .u32 (.s 5))⟩,
          ⟨none, some 2, .p (.mv (.s 6))⟩])] (.one .nil))
      .ret))
theorem cfn50 : cfn Tryz.prog 50 = some ⟨7, 3, d50.erase, [(.s 2, none)]⟩ := by kernel_rfl
theorem ok50 : d50.ok 7 3 = true := by kernel_rfl
noncomputable def F50 (a0 : Value) (H : Heap) (nx : Nat) (k : EP) : Prop :=
  wBin .shl (.int .u64 1) a0 fun t4_1 =>
  wBin .sub t4_1 (.int .u64 1) fun t5_2 =>
  wConv .u32 t5_2 fun t6_3 =>
  forceV t6_3 fun tv_4 => k tv_4 H nx
theorem eq50 (a0 : Value) (H : Heap) (nx : Nat) (k : EP) : wBody Tryz.prog 7 3 d50 [(.s 2, none)] [a0] H nx k = F50 a0 H nx k := by kernel_rfl
theorem spec50 {a0 : Value} {H : Heap} {nx : Nat} {k : EP} (h : F50 a0 H nx k) : Ans Tryz.prog 50 [a0] H nx k :=
  spec_of_body mixed namesOK cfn50 ok50 (by simp) ((eq50 a0 H nx k).symm ▸ h)

/-! 36: ordinal/ordinalref33.has -/
def d36 : D :=
  (.seq
    (.ops [
        (none, [⟨none, some 4, .p (.mv (.c (.bool false)))⟩])] (.one .nil))
    (.seq
      (.ops [
          (none, [⟨none, some 5, .p (.mv (.s 1))⟩,
          ⟨none, some 6, .p (.bin .geq (.s 5) (.c (.int .i64 0)))⟩,
          ⟨none, some 7, .p (.mv (.s 6))⟩]),
          (some (7, true), [⟨none, some 8, .p (.mv (.s 1))⟩,
          ⟨none, some 9, .p (.bin .lss (.s 8) (.c (.int .i64 32)))⟩]),
          (none, [⟨none, some 10, .p (.pick (.s 7) (.s 9) (.c (.bool false)))⟩,
          ⟨none, some 11, .p (.mv (.s 10))⟩]),
          (some (11, true), [⟨none, some 12, .p (.mv (.s 0))⟩,
          ⟨none, some 13, .p (.mv (.s 1))⟩,
          ⟨none, some 14, .r (.convI .u64 (.s 13))⟩,
          ⟨none, some 15, .p (.bin .shr (.s 12) (.s 14))⟩,
          ⟨none, some 16, .p (.bin .and (.s 15) (.c (.int .u32 1)))⟩,
          ⟨none, some 17, .p (.bin .eql (.s 16) (.c (.int .u32 1)))⟩]),
          (none, [⟨none, some 18, .p (.pick (.s 11) (.s 17) (.c (.bool false)))⟩,
          ⟨none, some 4, .p (.mv (.s 18))⟩])] (.one (.tst (.one (.tst (.one .nil) (.one .nil))) (.one (.one (.one .nil))))))
      .ret))
theorem cfn36 : cfn Tryz.prog 36 = some ⟨19, 5, d36.erase, [(.s 4, none)]⟩ := by kernel_rfl
theorem ok36 : d36.ok 19 5 = true := by kernel_rfl
noncomputable def F36 (a0 a1 : Value) (H : Heap) (nx : Nat) (k : EP) : Prop :=
  wBin .geq a1 (.int .i64 0) fun t6_1 =>
  wGuard true t6_1 (
    wBin .lss a1 (.int .i64 32) fun t9_2 =>
    wGuard true t9_2 (
      wConv .u64 a1 fun t14_3 =>
      wBin .shr a0 t14_3 fun t15_4 =>
      wBin .and t15_4 (.int .u32 1) fun t16_5 =>
      wBin .eql t16_5 (.int .u32 1) fun t17_6 =>
      forceV t17_6 fun tv_7 => k tv_7 H nx) (
      forceV (.bool false) fun tv_8 => k tv_8 H nx)) (
      forceV (.bool false) fun tv_9 => k tv_9 H nx)
theorem eq36 (a0 a1 : Value) (H : Heap) (nx : Nat) (k : EP) : wBody Tryz.prog 19 5 d36 [(.s 4, none)] [a0, a1] H nx k = F36 a0 a1 H nx k := by kernel_rfl
theorem spec36 {a0 a1 : Value} {H : Heap} {nx : Nat} {k : EP} (h : F36 a0 a1 H nx k) : Ans Tryz.prog 36 [a0, a1] H nx k :=
  spec_of_body mixed namesOK cfn36 ok36 (by simp) ((eq36 a0 a1 H nx k).symm ▸ h)

/-! 35: ordinal/ordinalref33.Inside -/
def d35 : D :=
  (.seq
    (.ops [
        (none, [⟨none, some 4, .p (.mv (.c (.bool false)))⟩])] (.one .nil))
    (.seq
      (.seq
        (.ops [
            (none, [⟨none, some 5, .p (.mv (.c (.int .i64 0)))⟩])] (.one .nil))
        (.block 0
          (.loop [5] [4, 6, 7, 8, 9, 10, 11, 12, 13, 14, 15, 16, 17, 18, 19]
            (.seq
              (.seq
                (.ops [
                    (none, [⟨none, some 6, .p (.mv (.s 5))⟩,
                    ⟨none, some 7, .p (.mv (.s 0))⟩,
                    ⟨none, some 8, .r (.len (.s 7) 0)⟩,
                    ⟨none, some 9, .p (.bin .lss (.s 6) (.s 8))⟩])] (.one .nil))
                (.cond (.s 9)
                  .skip
                  (.exit 0)))
              (.seq
                (.block 1
                  (.seq
                    (.ops [
                        (none, [⟨none, some 12, .p (.mv (.s 0))⟩,
                        ⟨none, some 13, .p (.mv (.s 5))⟩,
                        ⟨none, some 14, .p (.idx (.s 12) (.s 13) none 1)⟩,
                        ⟨none, some 15, .r (.ld (.s 14) none)⟩,
                        ⟨none, some 16, .p (.mv (.s 1))⟩,
                        ⟨none, some 17, .p (.bin .and (.s 15) (.s 16))⟩,
                        ⟨none, some 18, .p (.mv (.s 1))⟩,
                        ⟨none, some 19, .p (.bin .eql (.s 17) (.s 18))⟩])] (.one .nil))
                    (.cond (.s 19)
                      (.seq
                        (.ops [
                            (none, [⟨none, some 4, .p (.mv (.c (.bool true)))⟩])] (.one .nil))
                        .ret)
                      .skip)))
                (.ops [
                    (none, [⟨none, some 10, .p (.mv (.s 5))⟩,
                    ⟨none, some 11, .p (.bin .add (.s 10) (.c (.int .i64 1)))⟩,
                    ⟨none, some 5, .p (.mv (.s 11))⟩])] (.one .nil)))))))
      (.seq
        (.ops [
            (none, [⟨none, some 20, .p (.mv (.s 1))⟩,
            ⟨none, some 21, .p (.bin .eql (.s 20) (.c (.int .u32 0)))⟩,
            ⟨none, some 4, .p (.mv (.s 21))⟩])] (.one .nil))
        .ret)))
theorem cfn35 : cfn Tryz.prog 35 = some ⟨22, 5, d35.erase, [(.s 4, none)]⟩ := by kernel_rfl
theorem ok35 : d35.ok 22 5 = true := by kernel_rfl
noncomputable def F35 (a0 a1 : Value) (H : Heap) (nx : Nat) (k : EP) : Prop :=
  wLoop (fun tih_1 tL_2 H1 nx1 =>
    wLen a0 0 H1 fun t8_3 =>
    wBin .lss (tL_2.getD 0 undef) t8_3 fun t9_4 =>
    wIf t9_4 (
      wIdx a0 (tL_2.getD 0 undef) none 1 fun t14_5 =>
      wLd t14_5 none H1 fun t15_6 =>
      wBin .and t15_6 a1 fun t17_7 =>
      wBin .eql t17_7 a1 fun t19_8 =>
      wIf t19_8 (
        forceV (.bool true) fun tv_9 => k tv_9 H1 nx1) (
        wBin .add (tL_2.getD 0 undef) (.int .i64 1) fun t11_10 =>
        tih_1 [t11_10] H1 nx1)) (
      wBin .eql a1 (.int .u32 0) fun t21_11 =>
      forceV t21_11 fun tv_12 => k tv_12 H1 nx1)) [(.int .i64 0)] H nx
theorem eq35 (a0 a1 : Value) (H : Heap) (nx : Nat) (k : EP) : wBody Tryz.prog 22 5 d35 [(.s 4, none)] [a0, a1] H nx k = F35 a0 a1 H nx k := by kernel_rfl
theorem spec35 {a0 a1 : Value} {H : Heap} {nx : Nat} {k : EP} (h : F35 a0 a1 H nx k) : Ans Tryz.prog 35 [a0, a1] H nx k :=
  spec_of_body mixed namesOK cfn35 ok35 (by simp) ((eq35 a0 a1 H nx k).symm ▸ h)

/-! 34: ordinal/ordinalref33.neighbors -/
def d34 : D :=
  (.seq
    (.ops [
        (none, [⟨none, some 4, .p (.mv (.c (.slice none 0 0)))⟩])] (.one .nil))
    (.seq
      (.ops [
          (none, [⟨none, some 8, .p (.mv (.s 1))⟩,
          ⟨none, some 9, .a (.msl (.s 8) (.s 8) [.int .u32 0])⟩,
          ⟨none, some 5, .p (.mv (.s 9))⟩])] (.one .nil))
      (.seq
        (.seq
          (.ops [
              (none, [⟨none, some 6, .p (.mv (.c (.int .i64 0)))⟩])] (.one .nil))
          (.block 0
            (.loop [6] [7, 10, 11, 12, 13, 14, 15, 16, 17, 18, 19, 20, 21, 22, 23, 24, 25, 26, 27, 28, 29, 30, 31, 32, 33, 34, 35, 36, 37, 38, 39, 40, 41, 42, 43, 44, 45, 46, 47, 48, 49]
              (.seq
                (.seq
                  (.ops [
                      (none, [⟨none, some 10, .p (.mv (.s 6))⟩,
                      ⟨none, some 11, .p (.mv (.s 1))⟩,
                      ⟨none, some 12, .p (.bin .lss (.s 10) (.s 11))⟩])] (.one .nil))
                  (.cond (.s 12)
                    .skip
                    (.exit 0)))
                (.seq
                  (.block 1
                    (.seq
                      (.seq
                        (.ops [
                            (none, [⟨none, some 7, .p (.mv (.c (.int .i64 0)))⟩])] (.one .nil))
                        (.block 2
                          (.loop [7] [15, 16, 17, 18, 19, 20, 21, 22, 23, 24, 25, 26, 27, 28, 29, 30, 31, 32, 33, 34, 35, 36, 37, 38]
                            (.seq
                              (.seq
                                (.ops [
                                    (none, [⟨none, some 15, .p (.mv (.s 7))⟩,
                                    ⟨none, some 16, .p (.mv (.s 0))⟩,
                                    ⟨none, some 17, .r (.len (.s 16) 0)⟩,
                                    ⟨none, some 18, .p (.bin .lss (.s 15) (.s 17))⟩])] (.one .nil))
                                (.cond (.s 18)
                                  .skip
                                  (.exit 2)))
                              (.join [] [21, 22, 23, 24, 25, 26, 27, 28, 29, 30, 31, 32, 33, 34, 35, 36, 37, 38]
                                (.block 3
                                  (.seq
                                    (.ops [
                                        (none, [⟨none, some 21, .p (.mv (.s 0))⟩,
                                        ⟨none, some 22, .p (.mv (.s 7))⟩,
                                        ⟨none, some 23, .p (.idx (.s 21) (.s 22) none 1)⟩,
                                        ⟨none, some 24, .r (.ld (.s 23) none)⟩,
                                        ⟨none, some 25, .p (.mv (.s 6))⟩,
                                        ⟨none, some 26, .e (.call (.c (.func (.func 36) ⟨[]⟩ ⟨[]⟩)) [.s 24, .s 25])⟩])] (.one .nil))
                                    (.cond (.s 26)
                                      (.draw [0, 0, 0, 0, 12, 28, 0, 0, 192, 448, 1020, 2047, 4095] [
                                          (none, [⟨none, some 27, .p (.mv (.s 5))⟩,
                                          ⟨none, some 28, .p (.mv (.s 6))⟩,
                                          ⟨none, some 29, .p (.mv (.s 5))⟩,
                                          ⟨none, some 30, .p (.mv (.s 6))⟩,
                                          ⟨none, some 31, .p (.idx (.s 29) (.s 30) none 1)⟩,
                                          ⟨none, some 32, .r (.ld (.s 31) none)⟩,
                                          ⟨none, some 33, .p (.mv (.s 0))⟩,
                                          ⟨none, some 34, .p (.mv (.s 7))⟩,
                                          ⟨none, some 35, .p (.idx (.s 33) (.s 34) none 1)⟩,
                                          ⟨none, some 36, .r (.ld (.s 35) none)⟩,
                                          ⟨none, some 37, .p (.bin .or (.s 32) (.s 36))⟩,
                                          ⟨none, some 38, .p (.idx (.s 27) (.s 28) none 1)⟩,
                                          ⟨none, none, .e (.st (.s 38) (.s 37) 1)⟩])] (.one .nil))
                                      .skip)))
                                (.ops [
                                    (none, [⟨none, some 19, .p (.mv (.s 7))⟩,
                                    ⟨none, some 20, .p (.bin .add (.s 19) (.c (.int .i64 1)))⟩,
                                    ⟨none, some 7, .p (.mv (.s 20))⟩])] (.one .nil)))))))
                      (.ops [
                          (none, [⟨none, some 39, .p (.mv (.s 5))⟩,
                          ⟨none, some 40, .p (.mv (.s 6))⟩,
                          ⟨none, some 41, .p (.mv (.s 5))⟩,
                          ⟨none, some 42, .p (.mv (.s 6))⟩,
                          ⟨none, some 43, .p (.idx (.s 41) (.s 42) none 1)⟩,
                          ⟨none, some 44, .r (.ld (.s 43) none)⟩,
                          ⟨none, some 45, .p (.mv (.s 6))⟩,
                          ⟨none, some 46, .r (.convI .u64 (.s 45))⟩,
                          ⟨none, some 47, .p (.bin .shl (.c (.int .u32 1)) (.s 46))⟩,
                          ⟨none, some 48, .p (.bin .andNot (.s 44) (.s 47))⟩,
                          ⟨none, some 49, .p (.idx (.s 39) (.s 40) none 1)⟩,
                          ⟨none, none, .e (.st (.s 49) (.s 48) 1)⟩])] (.one .nil))))
                  (.ops [
                      (none, [⟨none, some 13, .p (.mv (.s 6))⟩,
                      ⟨none, some 14, .p (.bin .add (.s 13) (.c (.int .i64 1)))⟩,
                      ⟨none, some 6, .p (.mv (.s 14))⟩])] (.one .nil)))))))
        (.seq
          (.ops [
              (none, [⟨none, some 50, .p (.mv (.s 5))⟩,
              ⟨none, some 4, .p (.mv (.s 50))⟩])] (.one .nil))
          .ret))))
theorem cfn34 : cfn Tryz.prog 34 = some ⟨51, 6, d34.erase, [(.s 4, none)]⟩ := by kernel_rfl
theorem ok34 : d34.ok 51 6 = true := by kernel_rfl
noncomputable def F34 (a0 a1 : Value) (H : Heap) (nx : Nat) (k : EP) : Prop :=
  dMsl a1 a1 [.int .u32 0] fun tc_1 tl_3 tm_4 => wNew (.cells tc_1 0) (.slice tl_3 tm_4) H nx fun t9_2 H1 nx1 =>
  wLoop (fun tih_5 tL_6 H2 nx2 =>
    wBin .lss (tL_6.getD 0 undef) a1 fun t12_7 =>
    wIf t12_7 (
      wLoop (fun tih_8 tL_9 H3 nx3 =>
        wLen a0 0 H3 fun t17_10 =>
        wBin .lss (tL_9.getD 0 undef) t17_10 fun t18_11 =>
        wIf t18_11 (
          wJoin (fun tj_12 =>
            wIdx a0 (tL_9.getD 0 undef) none 1 fun t23_14 =>
            wLd t23_14 none H3 fun t24_15 =>
            wCall Tryz.prog 36 [t24_15, (tL_6.getD 0 undef)] H3 nx3 fun t26_16 H5 nx5 =>
            wIf t26_16 (
              forceN (nx5 + 13) fun nx6 =>
              wIdx t9_2 (tL_6.getD 0 undef) none 1 fun t31_17 =>
              wLd t31_17 none H5 fun t32_18 =>
              wIdx a0 (tL_9.getD 0 undef) none 1 fun t35_19 =>
              wLd t35_19 none H5 fun t36_20 =>
              wBin .or t32_18 t36_20 fun t37_21 =>
              wIdx t9_2 (tL_6.getD 0 undef) none 1 fun t38_22 =>
              wSt t38_22 t37_21 1 H5 fun H7 =>
              (((((True) ∧ ((wLd t35_19 none H5 fun tq_24 => tq_24 = t36_20) ∧ True)) ∧ (((True) ∧ ((wLd t31_17 none H5 fun tq_23 => tq_23 = t32_18) ∧ True)) ∧ True))) ∧ (
                tj_12 [] H7 nx6)) ∨ False) (
              tj_12 [] H5 nx5)) (fun tL_13 H4 nx4 =>
            wBin .add (tL_9.getD 0 undef) (.int .i64 1) fun t20_25 =>
            tih_8 [t20_25] H4 nx4)) (
          wIdx t9_2 (tL_6.getD 0 undef) none 1 fun t43_26 =>
          wLd t43_26 none H3 fun t44_27 =>
          wConv .u64 (tL_6.getD 0 undef) fun t46_28 =>
          wBin .shl (.int .u32 1) t46_28 fun t47_29 =>
          wBin .andNot t44_27 t47_29 fun t48_30 =>
          wIdx t9_2 (tL_6.getD 0 undef) none 1 fun t49_31 =>
          wSt t49_31 t48_30 1 H3 fun H8 =>
          wBin .add (tL_6.getD 0 undef) (.int .i64 1) fun t14_32 =>
          tih_5 [t14_32] H8 nx3)) [(.int .i64 0)] H2 nx2) (
      forceV t9_2 fun tv_33 => k tv_33 H2 nx2)) [(.int .i64 0)] H1 nx1
theorem eq34 (a0 a1 : Value) (H : Heap) (nx : Nat) (k : EP) : wBody Tryz.prog 51 6 d34 [(.s 4, none)] [a0, a1] H nx k = F34 a0 a1 H nx k := by kernel_rfl
theorem spec34 {a0 a1 : Value} {H : Heap} {nx : Nat} {k : EP} (h : F34 a0 a1 H nx k) : Ans Tryz.prog 34 [a0, a1] H nx k :=
  spec_of_body mixed namesOK cfn34 ok34 (by simp) ((eq34 a0 a1 H nx k).symm ▸ h)

/-! 16: ordinal/ordinalref33.Order -/
def d16 : D :=
  (.seq
    (.ops [
        (none, [⟨none, some 6, .p (.mv (.c (.bool false)))⟩])] (.one .nil))
    (.seq
      (.seq
        (.ops [
            (none, [⟨none, some 9, .p (.mv (.s 0))⟩,
            ⟨none, some 10, .r (.len (.s 9) 0)⟩,
            ⟨none, some 11, .p (.mv (.s 2))⟩,
            ⟨none, some 12, .p (.mv (.s 1))⟩,
            ⟨none, some 13, .p (.bin .sub (.s 11) (.s 12))⟩,
            ⟨none, some 14, .p (.bin .neq (.s 10) (.s 13))⟩])] (.one .nil))
        (.cond (.s 14)
          (.seq
            (.ops [
                (none, [⟨none, some 6, .p (.mv (.c (.bool false)))⟩])] (.one .nil))
            .ret)
          .skip))
      (.seq
        (.seq
          (.ops [
              (none, [⟨none, some 7, .p (.mv (.c (.int .i64 0)))⟩])] (.one .nil))
          (.block 0
            (.loop [7] [6, 8, 15, 16, 17, 18, 19, 20, 21, 22, 23, 24, 25, 26, 27, 28, 29, 30, 31, 32, 33, 34, 35, 36, 37, 38, 39, 40, 41, 42, 43, 44, 45, 46, 47, 48]
              (.seq
                (.seq
                  (.ops [
                      (none, [⟨none, some 15, .p (.mv (.s 7))⟩,
                      ⟨none, some 16, .p (.mv (.s 0))⟩,
                      ⟨none, some 17, .r (.len (.s 16) 0)⟩,
                      ⟨none, some 18, .p (.bin .lss (.s 15) (.s 17))⟩])] (.one .nil))
                  (.cond (.s 18)
                    .skip
                    (.exit 0)))
                (.seq
                  (.block 1
                    (.seq
                      (.join [34] [21, 22, 23, 24, 25, 26, 27, 28, 29, 30, 31, 32, 33]
                        (.ops [
                            (none, [⟨none, some 21, .p (.mv (.s 0))⟩,
                            ⟨none, some 22, .p (.mv (.s 7))⟩,
                            ⟨none, some 23, .p (.idx (.s 21) (.s 22) none 1)⟩,
                            ⟨none, some 24, .r (.ld (.s 23) none)⟩,
                            ⟨none, some 25, .p (.mv (.s 1))⟩,
                            ⟨none, some 26, .p (.bin .lss (.s 24) (.s 25))⟩,
                            ⟨none, some 27, .p (.mv (.s 26))⟩]),
                            (some (27, false), [⟨none, some 28, .p (.mv (.s 0))⟩,
                            ⟨none, some 29, .p (.mv (.s 7))⟩,
                            ⟨none, some 30, .p (.idx (.s 28) (.s 29) none 1)⟩,
                            ⟨none, some 31, .r (.ld (.s 30) none)⟩,
                            ⟨none, some 32, .p (.mv (.s 2))⟩,
                            ⟨none, some 33, .p (.bin .geq (.s 31) (.s 32))⟩]),
                            (none, [⟨none, some 34, .p (.pick (.s 27) (.c (.bool true)) (.s 33))⟩])] (.one (.tst (.one .nil) (.one .nil))))
                        (.cond (.s 34)
                          (.seq
                            (.ops [
                                (none, [⟨none, some 6, .p (.mv (.c (.bool false)))⟩])] (.one .nil))
                            .ret)
                          .skip))
                      (.seq
                        (.ops [
                            (none, [⟨none, some 8, .p (.mv (.c (.int .i64 0)))⟩])] (.one .nil))
                        (.block 2
                          (.loop [8] [6, 35, 36, 37, 38, 39, 40, 41, 42, 43, 44, 45, 46, 47, 48]
                            (.seq
                              (.seq
                                (.ops [
                                    (none, [⟨none, some 35, .p (.mv (.s 8))⟩,
                                    ⟨none, some 36, .p (.mv (.s 7))⟩,
                                    ⟨none, some 37, .p (.bin .lss (.s 35) (.s 36))⟩])] (.one .nil))
                                (.cond (.s 37)
                                  .skip
                                  (.exit 2)))
                              (.seq
                                (.block 3
                                  (.seq
                                    (.draw [0, 0, 3, 7, 0, 0, 48, 112, 255] [
                                        (none, [⟨none, some 40, .p (.mv (.s 0))⟩,
                                        ⟨none, some 41, .p (.mv (.s 8))⟩,
                                        ⟨none, some 42, .p (.idx (.s 40) (.s 41) none 1)⟩,
                                        ⟨none, some 43, .r (.ld (.s 42) none)⟩,
                                        ⟨none, some 44, .p (.mv (.s 0))⟩,
                                        ⟨none, some 45, .p (.mv (.s 7))⟩,
                                        ⟨none, some 46, .p (.idx (.s 44) (.s 45) none 1)⟩,
                                        ⟨none, some 47, .r (.ld (.s 46) none)⟩,
                                        ⟨none, some 48, .p (.bin .eql (.s 43) (.s 47))⟩])] (.one .nil))
                                    (.cond (.s 48)
                                      (.seq
                                        (.ops [
                                            (none, [⟨none, some 6, .p (.mv (.c (.bool false)))⟩])] (.one .nil))
                                        .ret)
                                      .skip)))
                                (.ops [
                                    (none, [⟨none, some 38, .p (.mv (.s 8))⟩,
                                    ⟨none, some 39, .p (.bin .add (.s 38) (.c (.int .i64 1)))⟩,
                                    ⟨none, some 8, .p (.mv (.s 39))⟩])] (.one .nil)))))))))
                  (.ops [
                      (none, [⟨none, some 19, .p (.mv (.s 7))⟩,
                      ⟨none, some 20, .p (.bin .add (.s 19) (.c (.int .i64 1)))⟩,
                      ⟨none, some 7, .p (.mv (.s 20))⟩])] (.one .nil)))))))
        (.seq
          (.ops [
              (none, [⟨none, some 6, .p (.mv (.c (.bool true)))⟩])] (.one .nil))
          .ret))))
theorem cfn16 : cfn Tryz.prog 16 = some ⟨49, 6, d16.erase, [(.s 6, none)]⟩ := by kernel_rfl
theorem ok16 : d16.ok 49 6 = true := by kernel_rfl
noncomputable def F16 (a0 a1 a2 : Value) (H : Heap) (nx : Nat) (k : EP) : Prop :=
  wLen a0 0 H fun t10_1 =>
  wBin .sub a2 a1 fun t13_2 =>
  wBin .neq t10_1 t13_2 fun t14_3 =>
  wIf t14_3 (
    forceV (.bool false) fun tv_4 => k tv_4 H nx) (
    wLoop (fun tih_5 tL_6 H1 nx1 =>
      wLen a0 0 H1 fun t17_7 =>
      wBin .lss (tL_6.getD 0 undef) t17_7 fun t18_8 =>
      wIf t18_8 (
        wJoin (fun tj_9 =>
          wIdx a0 (tL_6.getD 0 undef) none 1 fun t23_11 =>
          wLd t23_11 none H1 fun t24_12 =>
          wBin .lss t24_12 a1 fun t26_13 =>
          wGuard false t26_13 (
            wIdx a0 (tL_6.getD 0 undef) none 1 fun t30_14 =>
            wLd t30_14 none H1 fun t31_15 =>
            wBin .geq t31_15 a2 fun t33_16 =>
            tj_9 [t33_16] H1 nx1) (
            tj_9 [(.bool true)] H1 nx1)) (fun tL_10 H2 nx2 =>
          wIf (tL_10.getD 0 undef) (
            forceV (.bool false) fun tv_17 => k tv_17 H2 nx2) (
            wLoop (fun tih_18 tL_19 H3 nx3 =>
              wBin .lss (tL_19.getD 0 undef) (tL_6.getD 0 undef) fun t37_20 =>
              wIf t37_20 (
                forceN (nx3 + 9) fun nx4 =>
                wIdx a0 (tL_19.getD 0 undef) none 1 fun t42_21 =>
                wLd t42_21 none H3 fun t43_22 =>
                wIdx a0 (tL_6.getD 0 undef) none 1 fun t46_23 =>
                wLd t46_23 none H3 fun t47_24 =>
                wBin .eql t43_22 t47_24 fun t48_25 =>
                (((((wLd t46_23 none H3 fun tq_27 => tq_27 = t47_24) ∧ True) ∧ (((wLd t42_21 none H3 fun tq_26 => tq_26 = t43_22) ∧ True) ∧ True))) ∧ (
                  wIf t48_25 (
                    forceV (.bool false) fun tv_28 => k tv_28 H3 nx4) (
                    wBin .add (tL_19.getD 0 undef) (.int .i64 1) fun t39_29 =>
                    tih_18 [t39_29] H3 nx4))) ∨ False) (
                wBin .add (tL_6.getD 0 undef) (.int .i64 1) fun t20_30 =>
                tih_5 [t20_30] H3 nx3)) [(.int .i64 0)] H2 nx2))) (
        forceV (.bool true) fun tv_31 => k tv_31 H1 nx1)) [(.int .i64 0)] H nx)
theorem eq16 (a0 a1 a2 : Value) (H : Heap) (nx : Nat) (k : EP) : wBody Tryz.prog 49 6 d16 [(.s 6, none)] [a0, a1, a2] H nx k = F16 a0 a1 a2 H nx k := by kernel_rfl
theorem spec16 {a0 a1 a2 : Value} {H : Heap} {nx : Nat} {k : EP} (h : F16 a0 a1 a2 H nx k) : Ans Tryz.prog 16 [a0, a1, a2] H nx k :=
  spec_of_body mixed namesOK cfn16 ok16 (by simp) ((eq16 a0 a1 a2 H nx k).symm ▸ h)

end Go.Proofs.YtdecggbglnbhlaaGreatDoor
