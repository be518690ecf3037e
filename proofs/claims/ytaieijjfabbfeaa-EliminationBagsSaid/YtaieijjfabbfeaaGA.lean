/-
  MADE BY PROGRAM (wip/gen/gen.py): functions 27 49 52 29 31 37 28 20 8 9 10 30 32 11 12 3 as marked code, and their claims written out.
-/
import Derived.Test.YtaieijjfabbfeaaCloT
import Derived.Test.YtaieijjfabbfeaaAwake30
import Derived.KernelRfl
set_option linter.unusedSimpArgs false
set_option linter.unusedVariables false
set_option linter.unusedSectionVars false
namespace Go.Proofs.Ytaieijjfabbfeaa
open Go.Clo
set_option maxRecDepth 100000
/-! 27: ordinal/elimination.checkFree -/
def d27 : D :=
  (.seq
    (.ops [
        (none, [⟨none, some 2, .a (.box (.s 0))⟩,
        ⟨none, some 4, .p (.mv (.c (.int .i64 0)))⟩])] (.one .nil))
    (.seq
      (.seq
        (.ops [
            (none, [⟨none, some 6, .r (.ld (.s 2) (some 2))⟩,
            ⟨none, some 7, .e (.call (.c (.func (.func 37) ⟨[]⟩ ⟨[]⟩)) [.s 6])⟩,
            ⟨none, some 5, .p (.mv (.s 7))⟩])] (.one .nil))
        (.seq
          (.ops [
              (none, [⟨none, some 8, .p (.mv (.s 5))⟩,
              ⟨none, some 9, .p (.bin .neq (.s 8) (.c (.int .i64 0)))⟩])] (.one .nil))
          (.cond (.s 9)
            (.seq
              (.ops [
                  (none, [⟨none, some 10, .p (.mv (.s 5))⟩,
                  ⟨none, some 4, .p (.mv (.s 10))⟩])] (.one .nil))
              .ret)
            .skip)))
      (.seq
        (.join [18] [11, 12, 13, 14, 15, 16, 17]
          (.ops [
              (none, [⟨none, some 11, .p (.mv (.s 1))⟩,
              ⟨none, some 12, .p (.bin .lss (.s 11) (.c (.int .i64 0)))⟩,
              ⟨none, some 13, .p (.mv (.s 12))⟩]),
              (some (13, false), [⟨none, some 14, .p (.mv (.s 1))⟩,
              ⟨none, some 15, .p (.fld (.s 2) 0)⟩,
              ⟨none, some 16, .r (.ld (.s 15) none)⟩,
              ⟨none, some 17, .p (.bin .gtr (.s 14) (.s 16))⟩]),
              (none, [⟨none, some 18, .p (.pick (.s 13) (.c (.bool true)) (.s 17))⟩])] (.one (.tst (.one .nil) (.one .nil))))
          (.cond (.s 18)
            (.seq
              (.ops [
                  (none, [⟨none, some 4, .p (.mv (.c (.int .i64 3)))⟩])] (.one .nil))
              .ret)
            .skip))
        (.seq
          (.ops [
              (none, [⟨none, some 4, .p (.mv (.c (.int .i64 0)))⟩])] (.one .nil))
          .ret))))
theorem cfn27 : cfn Try.prog 27 = some ⟨19, 5, d27.erase, [(.s 4, none)]⟩ := by kernel_rfl
theorem ok27 : d27.ok 19 5 = true := by kernel_rfl
noncomputable def F27 (a0 a1 : Value) (H : Heap) (nx : Nat) (k : EP) : Prop :=
  dBox a0 fun tc_1 => wNew (.cells tc_1 0) .ptr H nx fun t2_2 H1 nx1 =>
  wLd t2_2 (some 2) H1 fun t6_3 =>
  wCall Try.prog 37 [t6_3] H1 nx1 fun t7_4 H2 nx2 =>
  wBin .neq t7_4 (.int .i64 0) fun t9_5 =>
  wIf t9_5 (
    forceV t7_4 fun tv_6 => k tv_6 H2 nx2) (
    wJoin (fun tj_7 =>
      wBin .lss a1 (.int .i64 0) fun t12_9 =>
      wGuard false t12_9 (
        wFld t2_2 0 fun t15_10 =>
        wLd t15_10 none H2 fun t16_11 =>
        wBin .gtr a1 t16_11 fun t17_12 =>
        tj_7 [t17_12] H2 nx2) (
        tj_7 [(.bool true)] H2 nx2)) (fun tL_8 H3 nx3 =>
      wIf (tL_8.getD 0 undef) (
        forceV (.int .i64 3) fun tv_13 => k tv_13 H3 nx3) (
        forceV (.int .i64 0) fun tv_14 => k tv_14 H3 nx3)))
theorem eq27 (a0 a1 : Value) (H : Heap) (nx : Nat) (k : EP) : wBody Try.prog 19 5 d27 [(.s 4, none)] [a0, a1] H nx k = F27 a0 a1 H nx k := by kernel_rfl
theorem spec27 {a0 a1 : Value} {H : Heap} {nx : Nat} {k : EP} (h : F27 a0 a1 H nx k) : Ans Try.prog 27 [a0, a1] H nx k :=
  spec_of_body mixed namesOK cfn27 ok27 (by simp) ((eq27 a0 a1 H nx k).symm ▸ h)

/-! 49: ordinal/elimination.below -/
def d49 : D :=
  (.seq
    (.ops [
        (none, [⟨none, some 2, .p (.mv (.c (.int .u32 0)))⟩])] (.one .nil))
    (.seq
      (.ops [
          (none, [⟨none, some 3, .p (.mv (.s 0))⟩,
          ⟨none, some 4, .p (.bin .shl (.c (.int .u64 1)) (.s 3))⟩,
          ⟨none, some 5, .p (.bin .sub (.s 4) (.c (.int .u64 1)))⟩,
          ⟨none, some 6, .r (.convI .u32 (.s 5))⟩,
          ⟨none, some 2, .p (.mv (.s 6))⟩])] (.one .nil))
      .ret))
theorem cfn49 : cfn Try.prog 49 = some ⟨7, 3, d49.erase, [(.s 2, none)]⟩ := by kernel_rfl
theorem ok49 : d49.ok 7 3 = true := by kernel_rfl
noncomputable def F49 (a0 : Value) (H : Heap) (nx : Nat) (k : EP) : Prop :=
  wBin .shl (.int .u64 1) a0 fun t4_1 =>
  wBin .sub t4_1 (.int .u64 1) fun t5_2 =>
  wConv .u32 t5_2 fun t6_3 =>
  forceV t6_3 fun tv_4 => k tv_4 H nx
theorem eq49 (a0 : Value) (H : Heap) (nx : Nat) (k : EP) : wBody Try.prog 7 3 d49 [(.s 2, none)] [a0] H nx k = F49 a0 H nx k := by kernel_rfl
theorem spec49 {a0 : Value} {H : Heap} {nx : Nat} {k : EP} (h : F49 a0 H nx k) : Ans Try.prog 49 [a0] H nx k :=
  spec_of_body mixed namesOK cfn49 ok49 (by simp) ((eq49 a0 H nx k).symm ▸ h)

/-! 52: ordinal/hypergraph.below -/
def d52 : D :=
  (.seq
    (.ops [
        (none, [⟨none, some 2, .p (.mv (.c (.int .u32 0)))⟩])] (.one .nil))
    (.seq
      (.ops [
          (none, [⟨none, some 3, .p (.mv (.s 0))⟩,
          ⟨none, some 4, .p (.bin .shl (.c (.int .u64 1)) (.s 3))⟩,
          ⟨none, some 5, .p (.bin .sub (.s 4) (.c (.int .u64 1)))⟩,
          ⟨none, some 6, .r (.convI .u32 (.s 5))⟩,
          ⟨none, some 2, .p (.mv (.s 6))⟩])] (.one .nil))
      .ret))
theorem cfn52 : cfn Try.prog 52 = some ⟨7, 3, d52.erase, [(.s 2, none)]⟩ := by kernel_rfl
theorem ok52 : d52.ok 7 3 = true := by kernel_rfl
noncomputable def F52 (a0 : Value) (H : Heap) (nx : Nat) (k : EP) : Prop :=
  wBin .shl (.int .u64 1) a0 fun t4_1 =>
  wBin .sub t4_1 (.int .u64 1) fun t5_2 =>
  wConv .u32 t5_2 fun t6_3 =>
  forceV t6_3 fun tv_4 => k tv_4 H nx
theorem eq52 (a0 : Value) (H : Heap) (nx : Nat) (k : EP) : wBody Try.prog 7 3 d52 [(.s 2, none)] [a0] H nx k = F52 a0 H nx k := by kernel_rfl
theorem spec52 {a0 : Value} {H : Heap} {nx : Nat} {k : EP} (h : F52 a0 H nx k) : Ans Try.prog 52 [a0] H nx k :=
  spec_of_body mixed namesOK cfn52 ok52 (by simp) ((eq52 a0 H nx k).symm ▸ h)

/-! 29: ordinal/ordinalref26.Has -/
def d29 : D :=
  (.seq
    (.ops [
        (none, [⟨none, some 4, .p (.mv (.c (.bool false)))⟩])] (.one .nil))
    (.seq
      (.ops [
          (none, [⟨none, some 5, .p (.mv (.s 0))⟩,
          ⟨none, some 6, .p (.mv (.s 1))⟩,
          ⟨none, some 7, .p (.bin .shr (.s 5) (.s 6))⟩,
          ⟨none, some 8, .p (.bin .rem (.s 7) (.c (.int .u32 2)))⟩,
          ⟨none, some 9, .p (.bin .eql (.s 8) (.c (.int .u32 1)))⟩,
          ⟨none, some 4, .p (.mv (.s 9))⟩])] (.one .nil))
      .ret))
theorem cfn29 : cfn Try.prog 29 = some ⟨10, 4, d29.erase, [(.s 4, none)]⟩ := by kernel_rfl
theorem ok29 : d29.ok 10 4 = true := by kernel_rfl
noncomputable def F29 (a0 a1 : Value) (H : Heap) (nx : Nat) (k : EP) : Prop :=
  wBin .shr a0 a1 fun t7_1 =>
  wBin .rem t7_1 (.int .u32 2) fun t8_2 =>
  wBin .eql t8_2 (.int .u32 1) fun t9_3 =>
  forceV t9_3 fun tv_4 => k tv_4 H nx
theorem eq29 (a0 a1 : Value) (H : Heap) (nx : Nat) (k : EP) : wBody Try.prog 10 4 d29 [(.s 4, none)] [a0, a1] H nx k = F29 a0 a1 H nx k := by kernel_rfl
theorem spec29 {a0 a1 : Value} {H : Heap} {nx : Nat} {k : EP} (h : F29 a0 a1 H nx k) : Ans Try.prog 29 [a0, a1] H nx k :=
  spec_of_body mixed namesOK cfn29 ok29 (by simp) ((eq29 a0 a1 H nx k).symm ▸ h)

/-! 31: ordinal/ordinalref26.Contains -/
def d31 : D :=
  (.seq
    (.ops [
        (none, [⟨none, some 4, .p (.mv (.c (.bool false)))⟩])] (.one .nil))
    (.seq
      (.seq
        (.ops [
            (none, [⟨none, some 5, .p (.mv (.c (.int .i64 0)))⟩])] (.one .nil))
        (.block 0
          (.loop [5] [4, 6, 7, 8, 9, 10, 11, 12, 13, 14, 15, 16, 17, 18]
            (.seq
              (.seq
                (.ops [
                    (none, [⟨none, some 6, .p (.mv (.s 5))⟩,
                    ⟨none, some 7, .p (.bin .lss (.s 6) (.c (.int .i64 32)))⟩])] (.one .nil))
                (.cond (.s 7)
                  .skip
                  (.exit 0)))
              (.seq
                (.block 1
                  (.join [18] [10, 11, 12, 13, 14, 15, 16, 17]
                    (.ops [
                        (none, [⟨none, some 10, .p (.mv (.s 1))⟩,
                        ⟨none, some 11, .p (.mv (.s 5))⟩,
                        ⟨none, some 12, .e (.call (.c (.func (.func 29) ⟨[]⟩ ⟨[]⟩)) [.s 10, .s 11])⟩,
                        ⟨none, some 13, .p (.mv (.s 12))⟩]),
                        (some (13, true), [⟨none, some 14, .p (.mv (.s 0))⟩,
                        ⟨none, some 15, .p (.mv (.s 5))⟩,
                        ⟨none, some 16, .e (.call (.c (.func (.func 29) ⟨[]⟩ ⟨[]⟩)) [.s 14, .s 15])⟩,
                        ⟨none, some 17, .p (.un .not (.s 16))⟩]),
                        (none, [⟨none, some 18, .p (.pick (.s 13) (.s 17) (.c (.bool false)))⟩])] (.one (.tst (.one .nil) (.one .nil))))
                    (.cond (.s 18)
                      (.seq
                        (.ops [
                            (none, [⟨none, some 4, .p (.mv (.c (.bool false)))⟩])] (.one .nil))
                        .ret)
                      .skip)))
                (.ops [
                    (none, [⟨none, some 8, .p (.mv (.s 5))⟩,
                    ⟨none, some 9, .p (.bin .add (.s 8) (.c (.int .i64 1)))⟩,
                    ⟨none, some 5, .p (.mv (.s 9))⟩])] (.one .nil)))))))
      (.seq
        (.ops [
            (none, [⟨none, some 4, .p (.mv (.c (.bool true)))⟩])] (.one .nil))
        .ret)))
theorem cfn31 : cfn Try.prog 31 = some ⟨19, 5, d31.erase, [(.s 4, none)]⟩ := by kernel_rfl
theorem ok31 : d31.ok 19 5 = true := by kernel_rfl
noncomputable def F31 (a0 a1 : Value) (H : Heap) (nx : Nat) (k : EP) : Prop :=
  wLoop (fun tih_1 tL_2 H1 nx1 =>
    wBin .lss (tL_2.getD 0 undef) (.int .i64 32) fun t7_3 =>
    wIf t7_3 (
      wJoin (fun tj_4 =>
        wCall Try.prog 29 [a1, (tL_2.getD 0 undef)] H1 nx1 fun t12_6 H3 nx3 =>
        wGuard true t12_6 (
          wCall Try.prog 29 [a0, (tL_2.getD 0 undef)] H3 nx3 fun t16_7 H4 nx4 =>
          wUn .not t16_7 fun t17_8 =>
          tj_4 [t17_8] H4 nx4) (
          tj_4 [(.bool false)] H3 nx3)) (fun tL_5 H2 nx2 =>
        wIf (tL_5.getD 0 undef) (
          forceV (.bool false) fun tv_9 => k tv_9 H2 nx2) (
          wBin .add (tL_2.getD 0 undef) (.int .i64 1) fun t9_10 =>
          tih_1 [t9_10] H2 nx2))) (
      forceV (.bool true) fun tv_11 => k tv_11 H1 nx1)) [(.int .i64 0)] H nx
theorem eq31 (a0 a1 : Value) (H : Heap) (nx : Nat) (k : EP) : wBody Try.prog 19 5 d31 [(.s 4, none)] [a0, a1] H nx k = F31 a0 a1 H nx k := by kernel_rfl
theorem spec31 {a0 a1 : Value} {H : Heap} {nx : Nat} {k : EP} (h : F31 a0 a1 H nx k) : Ans Try.prog 31 [a0, a1] H nx k :=
  spec_of_body mixed namesOK cfn31 ok31 (by simp) ((eq31 a0 a1 H nx k).symm ▸ h)

/-! 37: ordinal/hypergraph.Check -/
def d37 : D :=
  (.seq
    (.ops [
        (none, [⟨none, some 1, .a (.box (.s 0))⟩,
        ⟨none, some 2, .p (.mv (.c (.int .i64 0)))⟩])] (.one .nil))
    (.seq
      (.join [12] [5, 6, 7, 8, 9, 10, 11]
        (.ops [
            (none, [⟨none, some 5, .p (.fld (.s 1) 0)⟩,
            ⟨none, some 6, .r (.ld (.s 5) none)⟩,
            ⟨none, some 7, .p (.bin .lss (.s 6) (.c (.int .i64 0)))⟩,
            ⟨none, some 8, .p (.mv (.s 7))⟩]),
            (some (8, false), [⟨none, some 9, .p (.fld (.s 1) 0)⟩,
            ⟨none, some 10, .r (.ld (.s 9) none)⟩,
            ⟨none, some 11, .p (.bin .gtr (.s 10) (.c (.int .i64 32)))⟩]),
            (none, [⟨none, some 12, .p (.pick (.s 8) (.c (.bool true)) (.s 11))⟩])] (.one (.tst (.one .nil) (.one .nil))))
        (.cond (.s 12)
          (.seq
            (.ops [
                (none, [⟨none, some 2, .p (.mv (.c (.int .i64 3)))⟩])] (.one .nil))
            .ret)
          .skip))
      (.seq
        (.seq
          (.ops [
              (none, [⟨none, some 13, .p (.fld (.s 1) 1)⟩,
              ⟨none, some 14, .r (.ld (.s 13) none)⟩,
              ⟨none, some 15, .r (.len (.s 14) 0)⟩,
              ⟨none, some 16, .p (.bin .gtr (.s 15) (.c (.int .i64 64)))⟩])] (.one .nil))
          (.cond (.s 16)
            (.seq
              (.ops [
                  (none, [⟨none, some 2, .p (.mv (.c (.int .i64 12)))⟩])] (.one .nil))
              .ret)
            .skip))
        (.seq
          (.seq
            (.ops [
                (none, [⟨none, some 17, .p (.fld (.s 1) 1)⟩,
                ⟨none, some 18, .r (.ld (.s 17) none)⟩,
                ⟨none, some 19, .r (.len (.s 18) 0)⟩,
                ⟨none, some 20, .p (.mv (.c (.int .i64 0)))⟩])] (.one .nil))
            (.block 0
              (.loop [20] [2, 4, 21, 22, 23, 24, 25, 26, 27, 28, 29, 30]
                (.seq
                  (.ops [
                      (none, [⟨none, some 21, .p (.bin .lss (.s 20) (.s 19))⟩])] (.one .nil))
                  (.seq
                    (.cond (.s 21)
                      .skip
                      (.exit 0))
                    (.seq
                      (.block 1
                        (.seq
                          (.ops [
                              (none, [⟨none, some 22, .p (.idx (.s 18) (.s 20) none 1)⟩,
                              ⟨none, some 23, .r (.ld (.s 22) none)⟩,
                              ⟨none, some 4, .p (.mv (.s 23))⟩])] (.one .nil))
                          (.seq
                            (.ops [
                                (none, [⟨none, some 24, .p (.mv (.s 4))⟩,
                                ⟨none, some 25, .p (.fld (.s 1) 0)⟩,
                                ⟨none, some 26, .r (.ld (.s 25) none)⟩,
                                ⟨none, some 27, .e (.call (.c (.func (.func 52) ⟨[]⟩ ⟨[]⟩)) [.s 26])⟩,
                                ⟨none, some 28, .p (.bin .andNot (.s 24) (.s 27))⟩,
                                ⟨none, some 29, .p (.bin .neq (.s 28) (.c (.int .u32 0)))⟩])] (.one .nil))
                            (.cond (.s 29)
                              (.seq
                                (.ops [
                                    (none, [⟨none, some 2, .p (.mv (.c (.int .i64 1)))⟩])] (.one .nil))
                                .ret)
                              .skip))))
                      (.ops [
                          (none, [⟨none, some 30, .p (.bin .add (.s 20) (.c (.int .i64 1)))⟩,
                          ⟨none, some 20, .p (.mv (.s 30))⟩])] (.one .nil))))))))
          (.seq
            (.ops [
                (none, [⟨none, some 2, .p (.mv (.c (.int .i64 0)))⟩])] (.one .nil))
            .ret)))))
theorem cfn37 : cfn Try.prog 37 = some ⟨31, 5, d37.erase, [(.s 2, none)]⟩ := by kernel_rfl
theorem ok37 : d37.ok 31 5 = true := by kernel_rfl
noncomputable def F37 (a0 : Value) (H : Heap) (nx : Nat) (k : EP) : Prop :=
  dBox a0 fun tc_1 => wNew (.cells tc_1 0) .ptr H nx fun t1_2 H1 nx1 =>
  wJoin (fun tj_3 =>
    wFld t1_2 0 fun t5_5 =>
    wLd t5_5 none H1 fun t6_6 =>
    wBin .lss t6_6 (.int .i64 0) fun t7_7 =>
    wGuard false t7_7 (
      wFld t1_2 0 fun t9_8 =>
      wLd t9_8 none H1 fun t10_9 =>
      wBin .gtr t10_9 (.int .i64 32) fun t11_10 =>
      tj_3 [t11_10] H1 nx1) (
      tj_3 [(.bool true)] H1 nx1)) (fun tL_4 H2 nx2 =>
    wIf (tL_4.getD 0 undef) (
      forceV (.int .i64 3) fun tv_11 => k tv_11 H2 nx2) (
      wFld t1_2 1 fun t13_12 =>
      wLd t13_12 none H2 fun t14_13 =>
      wLen t14_13 0 H2 fun t15_14 =>
      wBin .gtr t15_14 (.int .i64 64) fun t16_15 =>
      wIf t16_15 (
        forceV (.int .i64 12) fun tv_16 => k tv_16 H2 nx2) (
        wFld t1_2 1 fun t17_17 =>
        wLd t17_17 none H2 fun t18_18 =>
        wLen t18_18 0 H2 fun t19_19 =>
        wLoop (fun tih_20 tL_21 H3 nx3 =>
          wBin .lss (tL_21.getD 0 undef) t19_19 fun t21_22 =>
          wIf t21_22 (
            wIdx t18_18 (tL_21.getD 0 undef) none 1 fun t22_23 =>
            wLd t22_23 none H3 fun t23_24 =>
            wFld t1_2 0 fun t25_25 =>
            wLd t25_25 none H3 fun t26_26 =>
            wCall Try.prog 52 [t26_26] H3 nx3 fun t27_27 H4 nx4 =>
            wBin .andNot t23_24 t27_27 fun t28_28 =>
            wBin .neq t28_28 (.int .u32 0) fun t29_29 =>
            wIf t29_29 (
              forceV (.int .i64 1) fun tv_30 => k tv_30 H4 nx4) (
              wBin .add (tL_21.getD 0 undef) (.int .i64 1) fun t30_31 =>
              tih_20 [t30_31] H4 nx4)) (
            forceV (.int .i64 0) fun tv_32 => k tv_32 H3 nx3)) [(.int .i64 0)] H2 nx2)))
theorem eq37 (a0 : Value) (H : Heap) (nx : Nat) (k : EP) : wBody Try.prog 31 5 d37 [(.s 2, none)] [a0] H nx k = F37 a0 H nx k := by kernel_rfl
theorem spec37 {a0 : Value} {H : Heap} {nx : Nat} {k : EP} (h : F37 a0 H nx k) : Ans Try.prog 37 [a0] H nx k :=
  spec_of_body mixed namesOK cfn37 ok37 (by simp) ((eq37 a0 H nx k).symm ▸ h)

/-! 28: ordinal/elimination.checkBag -/
def d28 : D :=
  (.seq
    (.ops [
        (none, [⟨none, some 7, .a (.box (.s 3))⟩,
        ⟨none, some 8, .p (.mv (.c (.int .i64 0)))⟩])] (.one .nil))
    (.seq
      (.block 0
        (.join [9] [10, 11, 12, 13, 14, 15, 16, 17, 18, 19, 20, 21, 22, 23, 24, 25, 26, 27, 28, 29]
          (.draw [0, 1, 0, 7, 15, 31, 63, 31, 255, 511, 1023, 2047, 4095, 8191, 16383, 8191, 40959, 131071, 262143, 524287, 1048575] [
              (none, [⟨none, some 10, .p (.fld (.s 7) 0)⟩,
              ⟨none, some 11, .r (.ld (.s 10) none)⟩,
              ⟨none, some 12, .p (.mv (.s 2))⟩,
              ⟨none, some 13, .p (.bin .neq (.s 11) (.s 12))⟩,
              ⟨none, some 14, .p (.mv (.s 13))⟩]),
              (some (14, false), [⟨none, some 15, .p (.fld (.s 7) 1)⟩,
              ⟨none, some 16, .r (.ld (.s 15) none)⟩,
              ⟨none, some 17, .p (.mv (.s 2))⟩,
              ⟨none, some 18, .p (.bin .shr (.s 16) (.s 17))⟩,
              ⟨none, some 19, .p (.bin .and (.s 18) (.c (.int .u32 1)))⟩,
              ⟨none, some 20, .p (.bin .eql (.s 19) (.c (.int .u32 1)))⟩]),
              (none, [⟨none, some 21, .p (.pick (.s 14) (.c (.bool true)) (.s 20))⟩,
              ⟨none, some 22, .p (.mv (.s 21))⟩]),
              (some (22, false), [⟨none, some 23, .p (.fld (.s 7) 1)⟩,
              ⟨none, some 24, .r (.ld (.s 23) none)⟩,
              ⟨none, some 25, .p (.mv (.s 0))⟩,
              ⟨none, some 26, .e (.call (.c (.func (.func 49) ⟨[]⟩ ⟨[]⟩)) [.s 25])⟩,
              ⟨none, some 27, .p (.bin .andNot (.s 24) (.s 26))⟩,
              ⟨none, some 28, .p (.bin .neq (.s 27) (.c (.int .u32 0)))⟩]),
              (none, [⟨none, some 29, .p (.pick (.s 22) (.c (.bool true)) (.s 28))⟩,
              ⟨none, some 9, .p (.mv (.s 29))⟩])] (.one (.tst (.one (.tst (.one .nil) (.one .nil))) (.one (.one (.one .nil))))))
          (.cond (.s 9)
            (.seq
              (.ops [
                  (none, [⟨none, some 8, .p (.mv (.c (.int .i64 1)))⟩])] (.one .nil))
              .ret)
            (.join [30] [31, 32, 33, 34, 35, 36, 37, 38, 39, 40, 41]
              (.draw [0, 0, 3, 7, 15, 31, 15, 79, 255, 511, 1023, 2047] [
                  (none, [⟨none, some 31, .p (.mv (.s 2))⟩,
                  ⟨none, some 32, .p (.mv (.s 1))⟩,
                  ⟨none, some 33, .p (.bin .lss (.s 31) (.s 32))⟩,
                  ⟨none, some 34, .p (.mv (.s 33))⟩]),
                  (some (34, true), [⟨none, some 35, .p (.fld (.s 7) 1)⟩,
                  ⟨none, some 36, .r (.ld (.s 35) none)⟩,
                  ⟨none, some 37, .p (.mv (.s 2))⟩,
                  ⟨none, some 38, .e (.call (.c (.func (.func 49) ⟨[]⟩ ⟨[]⟩)) [.s 37])⟩,
                  ⟨none, some 39, .p (.bin .andNot (.s 36) (.s 38))⟩,
                  ⟨none, some 40, .p (.bin .neq (.s 39) (.c (.int .u32 0)))⟩]),
                  (none, [⟨none, some 41, .p (.pick (.s 34) (.s 40) (.c (.bool false)))⟩,
                  ⟨none, some 30, .p (.mv (.s 41))⟩])] (.one (.tst (.one .nil) (.one .nil))))
              (.cond (.s 30)
                (.seq
                  (.ops [
                      (none, [⟨none, some 8, .p (.mv (.c (.int .i64 16)))⟩])] (.one .nil))
                  .ret)
                (.join [42] [43, 44, 45, 46, 47, 48, 49, 50]
                  (.ops [
                      (none, [⟨none, some 43, .p (.fld (.s 7) 1)⟩,
                      ⟨none, some 44, .r (.ld (.s 43) none)⟩,
                      ⟨none, some 45, .p (.bin .eql (.s 44) (.c (.int .u32 0)))⟩,
                      ⟨none, some 46, .p (.mv (.s 45))⟩]),
                      (some (46, true), [⟨none, some 47, .p (.fld (.s 7) 2)⟩,
                      ⟨none, some 48, .r (.ld (.s 47) none)⟩,
                      ⟨none, some 49, .p (.bin .neq (.s 48) (.c (.int .i64 (-1))))⟩]),
                      (none, [⟨none, some 50, .p (.pick (.s 46) (.s 49) (.c (.bool false)))⟩,
                      ⟨none, some 42, .p (.mv (.s 50))⟩])] (.one (.tst (.one .nil) (.one .nil))))
                  (.cond (.s 42)
                    (.seq
                      (.ops [
                          (none, [⟨none, some 8, .p (.mv (.c (.int .i64 28)))⟩])] (.one .nil))
                      .ret)
                    (.join [51] [52, 53, 54, 55, 56, 57, 58, 59, 60, 61, 62, 63, 64, 65, 66, 67, 68, 69, 70, 71, 72, 73, 74]
                      (.ops [
                          (none, [⟨none, some 52, .p (.fld (.s 7) 1)⟩,
                          ⟨none, some 53, .r (.ld (.s 52) none)⟩,
                          ⟨none, some 54, .p (.bin .neq (.s 53) (.c (.int .u32 0)))⟩,
                          ⟨none, some 55, .p (.mv (.s 54))⟩]),
                          (some (55, true), [⟨none, some 56, .p (.fld (.s 7) 2)⟩,
                          ⟨none, some 57, .r (.ld (.s 56) none)⟩,
                          ⟨none, some 58, .p (.bin .lss (.s 57) (.c (.int .i64 0)))⟩,
                          ⟨none, some 59, .p (.mv (.s 58))⟩]),
                          (some (59, false), [⟨none, some 60, .p (.fld (.s 7) 2)⟩,
                          ⟨none, some 61, .r (.ld (.s 60) none)⟩,
                          ⟨none, some 62, .p (.mv (.s 0))⟩,
                          ⟨none, some 63, .p (.bin .geq (.s 61) (.s 62))⟩]),
                          (some (55, true), [⟨none, some 64, .p (.pick (.s 59) (.c (.bool true)) (.s 63))⟩,
                          ⟨none, some 65, .p (.mv (.s 64))⟩]),
                          (some (65, false), [⟨none, some 66, .p (.fld (.s 7) 1)⟩,
                          ⟨none, some 67, .r (.ld (.s 66) none)⟩,
                          ⟨none, some 68, .p (.fld (.s 7) 2)⟩,
                          ⟨none, some 69, .r (.ld (.s 68) none)⟩,
                          ⟨none, some 70, .p (.bin .shr (.s 67) (.s 69))⟩,
                          ⟨none, some 71, .p (.bin .and (.s 70) (.c (.int .u32 1)))⟩,
                          ⟨none, some 72, .p (.bin .eql (.s 71) (.c (.int .u32 0)))⟩]),
                          (some (55, true), [⟨none, some 73, .p (.pick (.s 65) (.c (.bool true)) (.s 72))⟩]),
                          (none, [⟨none, some 74, .p (.pick (.s 55) (.s 73) (.c (.bool false)))⟩,
                          ⟨none, some 51, .p (.mv (.s 74))⟩])] (.one (.tst (.tst (.one (.tst (.one (.one .nil)) (.one (.one .nil)))) (.one (.one (.one (.one .nil))))) (.one (.one (.one (.one (.one .nil))))))))
                      (.cond (.s 51)
                        (.seq
                          (.ops [
                              (none, [⟨none, some 8, .p (.mv (.c (.int .i64 28)))⟩])] (.one .nil))
                          .ret)
                        .skip)))))))))
      (.seq
        (.ops [
            (none, [⟨none, some 8, .p (.mv (.c (.int .i64 0)))⟩])] (.one .nil))
        .ret)))
theorem cfn28 : cfn Try.prog 28 = some ⟨75, 7, d28.erase, [(.s 8, none)]⟩ := by kernel_rfl
theorem ok28 : d28.ok 75 7 = true := by kernel_rfl
noncomputable def F28 (a0 a1 a2 a3 : Value) (H : Heap) (nx : Nat) (k : EP) : Prop :=
  dBox a3 fun tc_1 => wNew (.cells tc_1 0) .ptr H nx fun t7_2 H1 nx1 =>
  wJoin (fun tj_3 =>
    forceN (nx1 + 21) fun nx3 =>
    wFld t7_2 0 fun t10_5 =>
    wLd t10_5 none H1 fun t11_6 =>
    wBin .neq t11_6 a2 fun t13_7 =>
    wGuard false t13_7 (
      wFld t7_2 1 fun t15_8 =>
      wLd t15_8 none H1 fun t16_9 =>
      wBin .shr t16_9 a2 fun t18_10 =>
      wBin .and t18_10 (.int .u32 1) fun t19_11 =>
      wBin .eql t19_11 (.int .u32 1) fun t20_12 =>
      wGuard false t20_12 (
        wFld t7_2 1 fun t23_13 =>
        wLd t23_13 none H1 fun t24_14 =>
        wCall Try.prog 49 [a0] H1 nx3 fun t26_15 H4 nx4 =>
        wBin .andNot t24_14 t26_15 fun t27_16 =>
        wBin .neq t27_16 (.int .u32 0) fun t28_17 =>
        (((((wLd t23_13 none H4 fun tq_20 => tq_20 = t24_14) ∧ ((wLd t23_13 none H1 fun tq_21 => tq_21 = t24_14) ∧ True)) ∧ (((True) ∧ ((wLd t15_8 none H1 fun tq_19 => tq_19 = t16_9) ∧ True)) ∧ (((True) ∧ ((wLd t10_5 none H1 fun tq_18 => tq_18 = t11_6) ∧ True)) ∧ True)))) ∧ (
          tj_3 [t28_17] H4 nx4)) ∨ False) (
        (((((wLd t15_8 none H1 fun tq_23 => tq_23 = t16_9) ∧ True) ∧ (((wLd t10_5 none H1 fun tq_22 => tq_22 = t11_6) ∧ True) ∧ True))) ∧ (
          tj_3 [(.bool true)] H1 nx3)) ∨ False)) (
        (((((wLd t10_5 none H1 fun tq_24 => tq_24 = t11_6) ∧ True) ∧ True)) ∧ (
          tj_3 [(.bool true)] H1 nx3)) ∨ False)) (fun tL_4 H2 nx2 =>
    wIf (tL_4.getD 0 undef) (
      forceV (.int .i64 1) fun tv_25 => k tv_25 H2 nx2) (
      wJoin (fun tj_26 =>
        forceN (nx2 + 12) fun nx6 =>
        wBin .lss a2 a1 fun t33_28 =>
        wGuard true t33_28 (
          wFld t7_2 1 fun t35_29 =>
          wLd t35_29 none H2 fun t36_30 =>
          wCall Try.prog 49 [a2] H2 nx6 fun t38_31 H7 nx7 =>
          wBin .andNot t36_30 t38_31 fun t39_32 =>
          wBin .neq t39_32 (.int .u32 0) fun t40_33 =>
          (((((wLd t35_29 none H7 fun tq_34 => tq_34 = t36_30) ∧ ((wLd t35_29 none H2 fun tq_35 => tq_35 = t36_30) ∧ True)) ∧ True)) ∧ (
            tj_26 [t40_33] H7 nx7)) ∨ False) (
          ((True) ∧ (
            tj_26 [(.bool false)] H2 nx6)) ∨ False)) (fun tL_27 H5 nx5 =>
        wIf (tL_27.getD 0 undef) (
          forceV (.int .i64 16) fun tv_36 => k tv_36 H5 nx5) (
          wJoin (fun tj_37 =>
            wFld t7_2 1 fun t43_39 =>
            wLd t43_39 none H5 fun t44_40 =>
            wBin .eql t44_40 (.int .u32 0) fun t45_41 =>
            wGuard true t45_41 (
              wFld t7_2 2 fun t47_42 =>
              wLd t47_42 none H5 fun t48_43 =>
              wBin .neq t48_43 (.int .i64 (-1)) fun t49_44 =>
              tj_37 [t49_44] H5 nx5) (
              tj_37 [(.bool false)] H5 nx5)) (fun tL_38 H8 nx8 =>
            wIf (tL_38.getD 0 undef) (
              forceV (.int .i64 28) fun tv_45 => k tv_45 H8 nx8) (
              wJoin (fun tj_46 =>
                wFld t7_2 1 fun t52_48 =>
                wLd t52_48 none H8 fun t53_49 =>
                wBin .neq t53_49 (.int .u32 0) fun t54_50 =>
                wGuard true t54_50 (
                  wFld t7_2 2 fun t56_51 =>
                  wLd t56_51 none H8 fun t57_52 =>
                  wBin .lss t57_52 (.int .i64 0) fun t58_53 =>
                  wGuard false t58_53 (
                    wFld t7_2 2 fun t60_54 =>
                    wLd t60_54 none H8 fun t61_55 =>
                    wBin .geq t61_55 a0 fun t63_56 =>
                      wGuard false t63_56 (
                        wFld t7_2 1 fun t66_57 =>
                        wLd t66_57 none H8 fun t67_58 =>
                        wFld t7_2 2 fun t68_59 =>
                        wLd t68_59 none H8 fun t69_60 =>
                        wBin .shr t67_58 t69_60 fun t70_61 =>
                        wBin .and t70_61 (.int .u32 1) fun t71_62 =>
                        wBin .eql t71_62 (.int .u32 0) fun t72_63 =>
                          tj_46 [t72_63] H8 nx8) (
                          tj_46 [(.bool true)] H8 nx8)) (
                          tj_46 [(.bool true)] H8 nx8)) (
                          tj_46 [(.bool false)] H8 nx8)) (fun tL_47 H9 nx9 =>
                wIf (tL_47.getD 0 undef) (
                  forceV (.int .i64 28) fun tv_64 => k tv_64 H9 nx9) (
                  forceV (.int .i64 0) fun tv_65 => k tv_65 H9 nx9))))))))
theorem eq28 (a0 a1 a2 a3 : Value) (H : Heap) (nx : Nat) (k : EP) : wBody Try.prog 75 7 d28 [(.s 8, none)] [a0, a1, a2, a3] H nx k = F28 a0 a1 a2 a3 H nx k := by kernel_rfl
theorem spec28 {a0 a1 a2 a3 : Value} {H : Heap} {nx : Nat} {k : EP} (h : F28 a0 a1 a2 a3 H nx k) : Ans Try.prog 28 [a0, a1, a2, a3] H nx k :=
  spec_of_body mixed namesOK cfn28 ok28 (by simp) ((eq28 a0 a1 a2 a3 H nx k).symm ▸ h)

/-! 20: ordinal/elimination.Set -/
def d20 : D :=
  (.seq
    (.ops [
        (none, [⟨none, some 1, .a (.box (.s 0))⟩,
        ⟨none, some 2, .p (.mv (.c (.int .u32 0)))⟩])] (.one .nil))
    (.seq
      (.join [10] [3, 4, 5, 6, 7, 8, 9]
        (.ops [
            (none, [⟨none, some 3, .p (.fld (.s 1) 0)⟩,
            ⟨none, some 4, .r (.ld (.s 3) none)⟩,
            ⟨none, some 5, .p (.bin .lss (.s 4) (.c (.int .i64 0)))⟩,
            ⟨none, some 6, .p (.mv (.s 5))⟩]),
            (some (6, false), [⟨none, some 7, .p (.fld (.s 1) 0)⟩,
            ⟨none, some 8, .r (.ld (.s 7) none)⟩,
            ⟨none, some 9, .p (.bin .geq (.s 8) (.c (.int .i64 32)))⟩]),
            (none, [⟨none, some 10, .p (.pick (.s 6) (.c (.bool true)) (.s 9))⟩])] (.one (.tst (.one .nil) (.one .nil))))
        (.cond (.s 10)
          (.seq
            (.ops [
                (none, [⟨none, some 11, .p (.fld (.s 1) 1)⟩,
                ⟨none, some 12, .r (.ld (.s 11) none)⟩,
                ⟨none, some 2, .p (.mv (.s 12))⟩])] (.one .nil))
            .ret)
          .skip))
      (.seq
        (.draw [0, 1, 0, 4, 12, 31, 63] [
            (none, [⟨none, some 13, .p (.fld (.s 1) 1)⟩,
            ⟨none, some 14, .r (.ld (.s 13) none)⟩,
            ⟨none, some 15, .p (.fld (.s 1) 0)⟩,
            ⟨none, some 16, .r (.ld (.s 15) none)⟩,
            ⟨none, some 17, .p (.bin .shl (.c (.int .u32 1)) (.s 16))⟩,
            ⟨none, some 18, .p (.bin .or (.s 14) (.s 17))⟩,
            ⟨none, some 2, .p (.mv (.s 18))⟩])] (.one .nil))
        .ret)))
theorem cfn20 : cfn Try.prog 20 = some ⟨19, 5, d20.erase, [(.s 2, none)]⟩ := by kernel_rfl
theorem ok20 : d20.ok 19 5 = true := by kernel_rfl
noncomputable def F20 (a0 : Value) (H : Heap) (nx : Nat) (k : EP) : Prop :=
  dBox a0 fun tc_1 => wNew (.cells tc_1 0) .ptr H nx fun t1_2 H1 nx1 =>
  wJoin (fun tj_3 =>
    wFld t1_2 0 fun t3_5 =>
    wLd t3_5 none H1 fun t4_6 =>
    wBin .lss t4_6 (.int .i64 0) fun t5_7 =>
    wGuard false t5_7 (
      wFld t1_2 0 fun t7_8 =>
      wLd t7_8 none H1 fun t8_9 =>
      wBin .geq t8_9 (.int .i64 32) fun t9_10 =>
      tj_3 [t9_10] H1 nx1) (
      tj_3 [(.bool true)] H1 nx1)) (fun tL_4 H2 nx2 =>
    wIf (tL_4.getD 0 undef) (
      wFld t1_2 1 fun t11_11 =>
      wLd t11_11 none H2 fun t12_12 =>
      forceV t12_12 fun tv_13 => k tv_13 H2 nx2) (
      forceN (nx2 + 7) fun nx3 =>
      wFld t1_2 1 fun t13_14 =>
      wLd t13_14 none H2 fun t14_15 =>
      wFld t1_2 0 fun t15_16 =>
      wLd t15_16 none H2 fun t16_17 =>
      wBin .shl (.int .u32 1) t16_17 fun t17_18 =>
      wBin .or t14_15 t17_18 fun t18_19 =>
      (((((wLd t15_16 none H2 fun tq_21 => tq_21 = t16_17) ∧ True) ∧ (((wLd t13_14 none H2 fun tq_20 => tq_20 = t14_15) ∧ True) ∧ True))) ∧ (
        forceV t18_19 fun tv_22 => k tv_22 H2 nx3)) ∨ False))
theorem eq20 (a0 : Value) (H : Heap) (nx : Nat) (k : EP) : wBody Try.prog 19 5 d20 [(.s 2, none)] [a0] H nx k = F20 a0 H nx k := by kernel_rfl
theorem spec20 {a0 : Value} {H : Heap} {nx : Nat} {k : EP} (h : F20 a0 H nx k) : Ans Try.prog 20 [a0] H nx k :=
  spec_of_body mixed namesOK cfn20 ok20 (by simp) ((eq20 a0 H nx k).symm ▸ h)

/-! 8: ordinal/elimination.Check -/
def d8 : D :=
  (.seq
    (.ops [
        (none, [⟨none, some 3, .a (.box (.s 0))⟩,
        ⟨none, some 6, .p (.mv (.c (.int .i64 0)))⟩])] (.one .nil))
    (.seq
      (.seq
        (.ops [
            (none, [⟨none, some 21, .r (.ld (.s 3) (some 2))⟩,
            ⟨none, some 22, .p (.mv (.s 1))⟩,
            ⟨none, some 23, .e (.call (.c (.func (.func 27) ⟨[]⟩ ⟨[]⟩)) [.s 21, .s 22])⟩,
            ⟨none, some 7, .p (.mv (.s 23))⟩])] (.one .nil))
        (.seq
          (.ops [
              (none, [⟨none, some 24, .p (.mv (.s 7))⟩,
              ⟨none, some 25, .p (.bin .neq (.s 24) (.c (.int .i64 0)))⟩])] (.one .nil))
          (.cond (.s 25)
            (.seq
              (.ops [
                  (none, [⟨none, some 26, .p (.mv (.s 7))⟩,
                  ⟨none, some 6, .p (.mv (.s 26))⟩])] (.one .nil))
              .ret)
            .skip)))
      (.seq
        (.seq
          (.ops [
              (none, [⟨none, some 27, .p (.mv (.s 2))⟩,
              ⟨none, some 28, .r (.len (.s 27) 0)⟩,
              ⟨none, some 29, .p (.fld (.s 3) 0)⟩,
              ⟨none, some 30, .r (.ld (.s 29) none)⟩,
              ⟨none, some 31, .p (.bin .neq (.s 28) (.s 30))⟩])] (.one .nil))
          (.cond (.s 31)
            (.seq
              (.ops [
                  (none, [⟨none, some 6, .p (.mv (.c (.int .i64 6)))⟩])] (.one .nil))
              .ret)
            .skip))
        (.seq
          (.seq
            (.ops [
                (none, [⟨none, some 32, .p (.mv (.s 2))⟩,
                ⟨none, some 33, .r (.len (.s 32) 0)⟩,
                ⟨none, some 34, .p (.mv (.c (.int .i64 0)))⟩])] (.one .nil))
            (.block 0
              (.loop [34] [6, 8, 9, 10, 35, 36, 37, 38, 39, 40, 41, 42, 43, 44, 45, 46, 47, 48]
                (.seq
                  (.ops [
                      (none, [⟨none, some 35, .p (.bin .lss (.s 34) (.s 33))⟩])] (.one .nil))
                  (.seq
                    (.cond (.s 35)
                      .skip
                      (.exit 0))
                    (.seq
                      (.block 1
                        (.seq
                          (.ops [
                              (none, [⟨none, some 36, .p (.mv (.s 34))⟩,
                              ⟨none, some 37, .p (.idx (.s 32) (.s 34) none 3)⟩,
                              ⟨none, some 38, .r (.ld (.s 37) (some 3))⟩,
                              ⟨none, some 9, .a (.alloc [.int .i64 0, .int .u32 0, .int .i64 0])⟩,
                              ⟨none, some 8, .p (.mv (.s 36))⟩,
                              ⟨none, none, .e (.st (.s 9) (.s 38) 3)⟩])] (.one .nil))
                          (.seq
                            (.ops [
                                (none, [⟨none, some 39, .p (.fld (.s 3) 0)⟩,
                                ⟨none, some 40, .r (.ld (.s 39) none)⟩,
                                ⟨none, some 41, .p (.mv (.s 1))⟩,
                                ⟨none, some 42, .p (.mv (.s 8))⟩,
                                ⟨none, some 43, .r (.ld (.s 9) (some 3))⟩,
                                ⟨none, some 44, .e (.call (.c (.func (.func 28) ⟨[]⟩ ⟨[]⟩)) [.s 40, .s 41, .s 42, .s 43])⟩,
                                ⟨none, some 10, .p (.mv (.s 44))⟩])] (.one .nil))
                            (.seq
                              (.ops [
                                  (none, [⟨none, some 45, .p (.mv (.s 10))⟩,
                                  ⟨none, some 46, .p (.bin .neq (.s 45) (.c (.int .i64 0)))⟩])] (.one .nil))
                              (.cond (.s 46)
                                (.seq
                                  (.ops [
                                      (none, [⟨none, some 47, .p (.mv (.s 10))⟩,
                                      ⟨none, some 6, .p (.mv (.s 47))⟩])] (.one .nil))
                                  .ret)
                                .skip)))))
                      (.ops [
                          (none, [⟨none, some 48, .p (.bin .add (.s 34) (.c (.int .i64 1)))⟩,
                          ⟨none, some 34, .p (.mv (.s 48))⟩])] (.one .nil))))))))
          (.seq
            (.seq
              (.ops [
                  (none, [⟨none, some 49, .p (.mv (.s 2))⟩,
                  ⟨none, some 50, .r (.len (.s 49) 0)⟩,
                  ⟨none, some 51, .p (.mv (.c (.int .i64 0)))⟩])] (.one .nil))
              (.block 2
                (.loop [51] [6, 11, 12, 13, 52, 53, 54, 55, 56, 57, 58, 59, 60, 61, 62, 63, 64, 65, 66, 67, 68]
                  (.seq
                    (.ops [
                        (none, [⟨none, some 52, .p (.bin .lss (.s 51) (.s 50))⟩])] (.one .nil))
                    (.seq
                      (.cond (.s 52)
                        .skip
                        (.exit 2))
                      (.seq
                        (.block 3
                          (.seq
                            (.ops [
                                (none, [⟨none, some 53, .p (.mv (.s 51))⟩,
                                ⟨none, some 11, .p (.mv (.s 53))⟩])] (.one .nil))
                            (.seq
                              (.ops [
                                  (none, [⟨none, some 12, .p (.mv (.c (.int .i64 0)))⟩])] (.one .nil))
                              (.seq
                                (.ops [
                                    (none, [⟨none, some 54, .p (.mv (.s 11))⟩,
                                    ⟨none, some 13, .p (.mv (.s 54))⟩])] (.one .nil))
                                (.block 4
                                  (.loop [12, 13] [6, 55, 56, 57, 58, 59, 60, 61, 62, 63, 64, 65, 66, 67]
                                    (.seq
                                      (.seq
                                        (.ops [
                                            (none, [⟨none, some 55, .p (.mv (.s 13))⟩,
                                            ⟨none, some 56, .p (.bin .geq (.s 55) (.c (.int .i64 0)))⟩])] (.one .nil))
                                        (.cond (.s 56)
                                          .skip
                                          (.exit 4)))
                                      (.seq
                                        (.block 5
                                          (.seq
                                            (.ops [
                                                (none, [⟨none, some 62, .p (.mv (.s 12))⟩,
                                                ⟨none, some 63, .p (.bin .add (.s 62) (.c (.int .i64 1)))⟩,
                                                ⟨none, some 12, .p (.mv (.s 63))⟩])] (.one .nil))
                                            (.seq
                                              (.ops [
                                                  (none, [⟨none, some 64, .p (.mv (.s 12))⟩,
                                                  ⟨none, some 65, .p (.mv (.s 2))⟩,
                                                  ⟨none, some 66, .r (.len (.s 65) 0)⟩,
                                                  ⟨none, some 67, .p (.bin .gtr (.s 64) (.s 66))⟩])] (.one .nil))
                                              (.cond (.s 67)
                                                (.seq
                                                  (.ops [
                                                      (none, [⟨none, some 6, .p (.mv (.c (.int .i64 16)))⟩])] (.one .nil))
                                                  .ret)
                                                .skip))))
                                        (.ops [
                                            (none, [⟨none, some 57, .p (.mv (.s 2))⟩,
                                            ⟨none, some 58, .p (.mv (.s 13))⟩,
                                            ⟨none, some 59, .p (.idx (.s 57) (.s 58) none 3)⟩,
                                            ⟨none, some 60, .p (.fld (.s 59) 2)⟩,
                                            ⟨none, some 61, .r (.ld (.s 60) none)⟩,
                                            ⟨none, some 13, .p (.mv (.s 61))⟩])] (.one .nil))))))))))
                        (.ops [
                            (none, [⟨none, some 68, .p (.bin .add (.s 51) (.c (.int .i64 1)))⟩,
                            ⟨none, some 51, .p (.mv (.s 68))⟩])] (.one .nil))))))))
            (.seq
              (.seq
                (.ops [
                    (none, [⟨none, some 69, .p (.mv (.s 2))⟩,
                    ⟨none, some 70, .r (.len (.s 69) 0)⟩,
                    ⟨none, some 71, .p (.mv (.c (.int .i64 0)))⟩])] (.one .nil))
                (.block 6
                  (.loop [71] [6, 15, 72, 73, 74, 75, 76, 77, 78, 79, 80, 81, 82, 83, 84, 85, 86, 87, 88, 89, 90, 91, 92, 93, 94]
                    (.seq
                      (.ops [
                          (none, [⟨none, some 72, .p (.bin .lss (.s 71) (.s 70))⟩])] (.one .nil))
                      (.seq
                        (.cond (.s 72)
                          .skip
                          (.exit 6))
                        (.seq
                          (.block 7
                            (.seq
                              (.ops [
                                  (none, [⟨none, some 73, .p (.idx (.s 69) (.s 71) none 3)⟩,
                                  ⟨none, some 74, .r (.ld (.s 73) (some 3))⟩,
                                  ⟨none, some 15, .a (.alloc [.int .i64 0, .int .u32 0, .int .i64 0])⟩,
                                  ⟨none, none, .e (.st (.s 15) (.s 74) 3)⟩])] (.one .nil))
                              (.join [93] [75, 76, 77, 78, 79, 80, 81, 82, 83, 84, 85, 86, 87, 88, 89, 90, 91, 92]
                                (.draw [0, 1, 3, 7, 15, 31, 15, 79, 207, 511, 15, 15, 2063, 7183, 15375, 31759, 65535, 131071, 262143] [
                                    (none, [⟨none, some 75, .p (.fld (.s 15) 2)⟩,
                                    ⟨none, some 76, .r (.ld (.s 75) none)⟩,
                                    ⟨none, some 77, .p (.bin .geq (.s 76) (.c (.int .i64 0)))⟩,
                                    ⟨none, some 78, .p (.mv (.s 77))⟩]),
                                    (some (78, true), [⟨none, some 79, .p (.fld (.s 15) 1)⟩,
                                    ⟨none, some 80, .r (.ld (.s 79) none)⟩,
                                    ⟨none, some 81, .p (.fld (.s 15) 2)⟩,
                                    ⟨none, some 82, .r (.ld (.s 81) none)⟩,
                                    ⟨none, some 83, .p (.bin .shl (.c (.int .u32 1)) (.s 82))⟩,
                                    ⟨none, some 84, .p (.bin .andNot (.s 80) (.s 83))⟩,
                                    ⟨none, some 85, .p (.mv (.s 2))⟩,
                                    ⟨none, some 86, .p (.fld (.s 15) 2)⟩,
                                    ⟨none, some 87, .r (.ld (.s 86) none)⟩,
                                    ⟨none, some 88, .p (.idx (.s 85) (.s 87) none 3)⟩,
                                    ⟨none, some 89, .p (.fld (.s 88) 1)⟩,
                                    ⟨none, some 90, .r (.ld (.s 89) none)⟩,
                                    ⟨none, some 91, .p (.bin .andNot (.s 84) (.s 90))⟩,
                                    ⟨none, some 92, .p (.bin .neq (.s 91) (.c (.int .u32 0)))⟩]),
                                    (none, [⟨none, some 93, .p (.pick (.s 78) (.s 92) (.c (.bool false)))⟩])] (.one (.tst (.one .nil) (.one .nil))))
                                (.cond (.s 93)
                                  (.seq
                                    (.ops [
                                        (none, [⟨none, some 6, .p (.mv (.c (.int .i64 28)))⟩])] (.one .nil))
                                    .ret)
                                  .skip))))
                          (.ops [
                              (none, [⟨none, some 94, .p (.bin .add (.s 71) (.c (.int .i64 1)))⟩,
                              ⟨none, some 71, .p (.mv (.s 94))⟩])] (.one .nil))))))))
              (.seq
                (.seq
                  (.ops [
                      (none, [⟨none, some 95, .p (.fld (.s 3) 1)⟩,
                      ⟨none, some 96, .r (.ld (.s 95) none)⟩,
                      ⟨none, some 97, .r (.len (.s 96) 0)⟩,
                      ⟨none, some 98, .p (.mv (.c (.int .i64 0)))⟩])] (.one .nil))
                  (.block 8
                    (.loop [98] [6, 17, 18, 20, 99, 100, 101, 102, 103, 104, 105, 106, 107, 108, 109, 110, 111, 112, 113, 114, 115, 116, 117, 118, 119, 120, 121]
                      (.seq
                        (.ops [
                            (none, [⟨none, some 99, .p (.bin .lss (.s 98) (.s 97))⟩])] (.one .nil))
                        (.seq
                          (.cond (.s 99)
                            .skip
                            (.exit 8))
                          (.seq
                            (.block 9
                              (.seq
                                (.ops [
                                    (none, [⟨none, some 100, .p (.idx (.s 96) (.s 98) none 1)⟩,
                                    ⟨none, some 101, .r (.ld (.s 100) none)⟩,
                                    ⟨none, some 17, .p (.mv (.s 101))⟩])] (.one .nil))
                                (.seq
                                  (.ops [
                                      (none, [⟨none, some 102, .p (.mv (.s 17))⟩,
                                      ⟨none, some 103, .p (.bin .eql (.s 102) (.c (.int .u32 0)))⟩,
                                      ⟨none, some 18, .p (.mv (.s 103))⟩])] (.one .nil))
                                  (.seq
                                    (.seq
                                      (.ops [
                                          (none, [⟨none, some 104, .p (.mv (.s 2))⟩,
                                          ⟨none, some 105, .r (.len (.s 104) 0)⟩,
                                          ⟨none, some 106, .p (.mv (.c (.int .i64 0)))⟩])] (.one .nil))
                                      (.block 10
                                        (.loop [18, 106] [20, 107, 108, 109, 110, 111, 112, 113, 114, 115, 116, 117, 118]
                                          (.seq
                                            (.ops [
                                                (none, [⟨none, some 107, .p (.bin .lss (.s 106) (.s 105))⟩])] (.one .nil))
                                            (.seq
                                              (.cond (.s 107)
                                                .skip
                                                (.exit 10))
                                              (.join [18] [20, 108, 109, 110, 111, 112, 113, 114, 115, 116, 117]
                                                (.block 11
                                                  (.seq
                                                    (.ops [
                                                        (none, [⟨none, some 108, .p (.idx (.s 104) (.s 106) none 3)⟩,
                                                        ⟨none, some 109, .r (.ld (.s 108) (some 3))⟩,
                                                        ⟨none, some 20, .a (.alloc [.int .i64 0, .int .u32 0, .int .i64 0])⟩,
                                                        ⟨none, none, .e (.st (.s 20) (.s 109) 3)⟩])] (.one .nil))
                                                    (.ops [
                                                        (none, [⟨none, some 110, .p (.mv (.s 18))⟩,
                                                        ⟨none, some 111, .p (.mv (.s 110))⟩]),
                                                        (some (111, false), [⟨none, some 112, .p (.mv (.s 17))⟩,
                                                        ⟨none, some 113, .r (.ld (.s 20) (some 3))⟩,
                                                        ⟨none, some 114, .e (.call (.c (.func (.func 20) ⟨[]⟩ ⟨[]⟩)) [.s 113])⟩,
                                                        ⟨none, some 115, .p (.bin .andNot (.s 112) (.s 114))⟩,
                                                        ⟨none, some 116, .p (.bin .eql (.s 115) (.c (.int .u32 0)))⟩]),
                                                        (none, [⟨none, some 117, .p (.pick (.s 111) (.c (.bool true)) (.s 116))⟩,
                                                        ⟨none, some 18, .p (.mv (.s 117))⟩])] (.one (.tst (.one .nil) (.one .nil))))))
                                                (.ops [
                                                    (none, [⟨none, some 118, .p (.bin .add (.s 106) (.c (.int .i64 1)))⟩,
                                                    ⟨none, some 106, .p (.mv (.s 118))⟩])] (.one .nil))))))))
                                    (.seq
                                      (.ops [
                                          (none, [⟨none, some 119, .p (.mv (.s 18))⟩,
                                          ⟨none, some 120, .p (.un .not (.s 119))⟩])] (.one .nil))
                                      (.cond (.s 120)
                                        (.seq
                                          (.ops [
                                              (none, [⟨none, some 6, .p (.mv (.c (.int .i64 9)))⟩])] (.one .nil))
                                          .ret)
                                        .skip))))))
                            (.ops [
                                (none, [⟨none, some 121, .p (.bin .add (.s 98) (.c (.int .i64 1)))⟩,
                                ⟨none, some 98, .p (.mv (.s 121))⟩])] (.one .nil))))))))
                (.seq
                  (.ops [
                      (none, [⟨none, some 6, .p (.mv (.c (.int .i64 0)))⟩])] (.one .nil))
                  .ret))))))))
theorem cfn8 : cfn Try.prog 8 = some ⟨122, 7, d8.erase, [(.s 6, none)]⟩ := by kernel_rfl
theorem ok8 : d8.ok 122 7 = true := by kernel_rfl
noncomputable def F8 (a0 a1 a2 : Value) (H : Heap) (nx : Nat) (k : EP) : Prop :=
  dBox a0 fun tc_1 => wNew (.cells tc_1 0) .ptr H nx fun t3_2 H1 nx1 =>
  wLd t3_2 (some 2) H1 fun t21_3 =>
  wCall Try.prog 27 [t21_3, a1] H1 nx1 fun t23_4 H2 nx2 =>
  wBin .neq t23_4 (.int .i64 0) fun t25_5 =>
  wIf t25_5 (
    forceV t23_4 fun tv_6 => k tv_6 H2 nx2) (
    wLen a2 0 H2 fun t28_7 =>
    wFld t3_2 0 fun t29_8 =>
    wLd t29_8 none H2 fun t30_9 =>
    wBin .neq t28_7 t30_9 fun t31_10 =>
    wIf t31_10 (
      forceV (.int .i64 6) fun tv_11 => k tv_11 H2 nx2) (
      wLen a2 0 H2 fun t33_12 =>
      wLoop (fun tih_13 tL_14 H3 nx3 =>
        wBin .lss (tL_14.getD 0 undef) t33_12 fun t35_15 =>
        wIf t35_15 (
          wIdx a2 (tL_14.getD 0 undef) none 3 fun t37_16 =>
          wLd t37_16 (some 3) H3 fun t38_17 =>
          wNew (.cells [.int .i64 0, .int .u32 0, .int .i64 0] 0) .ptr H3 nx3 fun t9_18 H4 nx4 =>
          wSt t9_18 t38_17 3 H4 fun H5 =>
          wFld t3_2 0 fun t39_19 =>
          wLd t39_19 none H5 fun t40_20 =>
          wLd t9_18 (some 3) H5 fun t43_21 =>
          wCall Try.prog 28 [t40_20, a1, (tL_14.getD 0 undef), t43_21] H5 nx4 fun t44_22 H6 nx6 =>
          wBin .neq t44_22 (.int .i64 0) fun t46_23 =>
          wIf t46_23 (
            forceV t44_22 fun tv_24 => k tv_24 H6 nx6) (
            wBin .add (tL_14.getD 0 undef) (.int .i64 1) fun t48_25 =>
            tih_13 [t48_25] H6 nx6)) (
          wLen a2 0 H3 fun t50_26 =>
          wLoop (fun tih_27 tL_28 H7 nx7 =>
            wBin .lss (tL_28.getD 0 undef) t50_26 fun t52_29 =>
            wIf t52_29 (
              wLoop (fun tih_30 tL_31 H8 nx8 =>
                wBin .geq (tL_31.getD 1 undef) (.int .i64 0) fun t56_32 =>
                wIf t56_32 (
                  wBin .add (tL_31.getD 0 undef) (.int .i64 1) fun t63_33 =>
                  wLen a2 0 H8 fun t66_34 =>
                  wBin .gtr t63_33 t66_34 fun t67_35 =>
                  wIf t67_35 (
                    forceV (.int .i64 16) fun tv_36 => k tv_36 H8 nx8) (
                    wIdx a2 (tL_31.getD 1 undef) none 3 fun t59_37 =>
                    wFld t59_37 2 fun t60_38 =>
                    wLd t60_38 none H8 fun t61_39 =>
                    tih_30 [t63_33, t61_39] H8 nx8)) (
                  wBin .add (tL_28.getD 0 undef) (.int .i64 1) fun t68_40 =>
                  tih_27 [t68_40] H8 nx8)) [(.int .i64 0), (tL_28.getD 0 undef)] H7 nx7) (
              wLen a2 0 H7 fun t70_41 =>
              wLoop (fun tih_42 tL_43 H9 nx9 =>
                wBin .lss (tL_43.getD 0 undef) t70_41 fun t72_44 =>
                wIf t72_44 (
                  wIdx a2 (tL_43.getD 0 undef) none 3 fun t73_45 =>
                  wLd t73_45 (some 3) H9 fun t74_46 =>
                  wNew (.cells [.int .i64 0, .int .u32 0, .int .i64 0] 0) .ptr H9 nx9 fun t15_47 H10 nx10 =>
                  wSt t15_47 t74_46 3 H10 fun H11 =>
                  wJoin (fun tj_48 =>
                    forceN (nx10 + 19) fun nx13 =>
                    wFld t15_47 2 fun t75_50 =>
                    wLd t75_50 none H11 fun t76_51 =>
                    wBin .geq t76_51 (.int .i64 0) fun t77_52 =>
                    wGuard true t77_52 (
                      wFld t15_47 1 fun t79_53 =>
                      wLd t79_53 none H11 fun t80_54 =>
                      wFld t15_47 2 fun t81_55 =>
                      wLd t81_55 none H11 fun t82_56 =>
                      wBin .shl (.int .u32 1) t82_56 fun t83_57 =>
                      wBin .andNot t80_54 t83_57 fun t84_58 =>
                      wFld t15_47 2 fun t86_59 =>
                      wLd t86_59 none H11 fun t87_60 =>
                      wIdx a2 t87_60 none 3 fun t88_61 =>
                      wFld t88_61 1 fun t89_62 =>
                      wLd t89_62 none H11 fun t90_63 =>
                      wBin .andNot t84_58 t90_63 fun t91_64 =>
                      wBin .neq t91_64 (.int .u32 0) fun t92_65 =>
                      (((((wLd t89_62 none H11 fun tq_70 => tq_70 = t90_63) ∧ True) ∧ (((wLd t86_59 none H11 fun tq_69 => tq_69 = t87_60) ∧ True) ∧ (((wLd t81_55 none H11 fun tq_68 => tq_68 = t82_56) ∧ True) ∧ (((wLd t79_53 none H11 fun tq_67 => tq_67 = t80_54) ∧ True) ∧ (((wLd t75_50 none H11 fun tq_66 => tq_66 = t76_51) ∧ True) ∧ True)))))) ∧ (
                        tj_48 [t92_65] H11 nx13)) ∨ False) (
                      (((((wLd t75_50 none H11 fun tq_71 => tq_71 = t76_51) ∧ True) ∧ True)) ∧ (
                        tj_48 [(.bool false)] H11 nx13)) ∨ False)) (fun tL_49 H12 nx12 =>
                    wIf (tL_49.getD 0 undef) (
                      forceV (.int .i64 28) fun tv_72 => k tv_72 H12 nx12) (
                      wBin .add (tL_43.getD 0 undef) (.int .i64 1) fun t94_73 =>
                      tih_42 [t94_73] H12 nx12))) (
                  wFld t3_2 1 fun t95_74 =>
                  wLd t95_74 none H9 fun t96_75 =>
                  wLen t96_75 0 H9 fun t97_76 =>
                  wLoop (fun tih_77 tL_78 H14 nx14 =>
                    wBin .lss (tL_78.getD 0 undef) t97_76 fun t99_79 =>
                    wIf t99_79 (
                      wIdx t96_75 (tL_78.getD 0 undef) none 1 fun t100_80 =>
                      wLd t100_80 none H14 fun t101_81 =>
                      wBin .eql t101_81 (.int .u32 0) fun t103_82 =>
                      wLen a2 0 H14 fun t105_83 =>
                      wLoop (fun tih_84 tL_85 H15 nx15 =>
                        wBin .lss (tL_85.getD 1 undef) t105_83 fun t107_86 =>
                        wIf t107_86 (
                          wJoin (fun tj_87 =>
                            wIdx a2 (tL_85.getD 1 undef) none 3 fun t108_89 =>
                            wLd t108_89 (some 3) H15 fun t109_90 =>
                            wNew (.cells [.int .i64 0, .int .u32 0, .int .i64 0] 0) .ptr H15 nx15 fun t20_91 H17 nx17 =>
                            wSt t20_91 t109_90 3 H17 fun H18 =>
                            wGuard false (tL_85.getD 0 undef) (
                              wLd t20_91 (some 3) H18 fun t113_92 =>
                              wCall Try.prog 20 [t113_92] H18 nx17 fun t114_93 H19 nx19 =>
                              wBin .andNot t101_81 t114_93 fun t115_94 =>
                              wBin .eql t115_94 (.int .u32 0) fun t116_95 =>
                              tj_87 [t116_95] H19 nx19) (
                              tj_87 [(.bool true)] H18 nx17)) (fun tL_88 H16 nx16 =>
                            wBin .add (tL_85.getD 1 undef) (.int .i64 1) fun t118_96 =>
                            tih_84 [(tL_88.getD 0 undef), t118_96] H16 nx16)) (
                          wUn .not (tL_85.getD 0 undef) fun t120_97 =>
                          wIf t120_97 (
                            forceV (.int .i64 9) fun tv_98 => k tv_98 H15 nx15) (
                            wBin .add (tL_78.getD 0 undef) (.int .i64 1) fun t121_99 =>
                            tih_77 [t121_99] H15 nx15))) [t103_82, (.int .i64 0)] H14 nx14) (
                      forceV (.int .i64 0) fun tv_100 => k tv_100 H14 nx14)) [(.int .i64 0)] H9 nx9)) [(.int .i64 0)] H7 nx7)) [(.int .i64 0)] H3 nx3)) [(.int .i64 0)] H2 nx2))
theorem eq8 (a0 a1 a2 : Value) (H : Heap) (nx : Nat) (k : EP) : wBody Try.prog 122 7 d8 [(.s 6, none)] [a0, a1, a2] H nx k = F8 a0 a1 a2 H nx k := by kernel_rfl
theorem spec8 {a0 a1 a2 : Value} {H : Heap} {nx : Nat} {k : EP} (h : F8 a0 a1 a2 H nx k) : Ans Try.prog 8 [a0, a1, a2] H nx k :=
  spec_of_body mixed namesOK cfn8 ok8 (by simp) ((eq8 a0 a1 a2 H nx k).symm ▸ h)

/-! 9: ordinal/ordinalref26.Check -/
def d9 : D :=
  (.seq
    (.ops [
        (none, [⟨none, some 1, .a (.box (.s 0))⟩,
        ⟨none, some 2, .p (.mv (.c (.int .i64 0)))⟩])] (.one .nil))
    (.seq
      (.join [12] [5, 6, 7, 8, 9, 10, 11]
        (.ops [
            (none, [⟨none, some 5, .p (.fld (.s 1) 0)⟩,
            ⟨none, some 6, .r (.ld (.s 5) none)⟩,
            ⟨none, some 7, .p (.bin .lss (.s 6) (.c (.int .i64 0)))⟩,
            ⟨none, some 8, .p (.mv (.s 7))⟩]),
            (some (8, false), [⟨none, some 9, .p (.fld (.s 1) 0)⟩,
            ⟨none, some 10, .r (.ld (.s 9) none)⟩,
            ⟨none, some 11, .p (.bin .gtr (.s 10) (.c (.int .i64 32)))⟩]),
            (none, [⟨none, some 12, .p (.pick (.s 8) (.c (.bool true)) (.s 11))⟩])] (.one (.tst (.one .nil) (.one .nil))))
        (.cond (.s 12)
          (.seq
            (.ops [
                (none, [⟨none, some 2, .p (.mv (.c (.int .i64 3)))⟩])] (.one .nil))
            .ret)
          .skip))
      (.seq
        (.seq
          (.ops [
              (none, [⟨none, some 13, .p (.fld (.s 1) 1)⟩,
              ⟨none, some 14, .r (.ld (.s 13) none)⟩,
              ⟨none, some 15, .r (.len (.s 14) 0)⟩,
              ⟨none, some 16, .p (.bin .gtr (.s 15) (.c (.int .i64 64)))⟩])] (.one .nil))
          (.cond (.s 16)
            (.seq
              (.ops [
                  (none, [⟨none, some 2, .p (.mv (.c (.int .i64 12)))⟩])] (.one .nil))
              .ret)
            .skip))
        (.seq
          (.seq
            (.ops [
                (none, [⟨none, some 3, .p (.mv (.c (.int .i64 0)))⟩])] (.one .nil))
            (.block 0
              (.loop [3] [2, 4, 17, 18, 19, 20, 21, 22, 23, 24, 25, 26, 27, 28, 29, 30, 31, 32, 33, 34, 35, 36]
                (.seq
                  (.seq
                    (.ops [
                        (none, [⟨none, some 17, .p (.mv (.s 3))⟩,
                        ⟨none, some 18, .p (.fld (.s 1) 1)⟩,
                        ⟨none, some 19, .r (.ld (.s 18) none)⟩,
                        ⟨none, some 20, .r (.len (.s 19) 0)⟩,
                        ⟨none, some 21, .p (.bin .lss (.s 17) (.s 20))⟩])] (.one .nil))
                    (.cond (.s 21)
                      .skip
                      (.exit 0)))
                  (.seq
                    (.block 1
                      (.seq
                        (.ops [
                            (none, [⟨none, some 24, .p (.fld (.s 1) 0)⟩,
                            ⟨none, some 25, .r (.ld (.s 24) none)⟩,
                            ⟨none, some 4, .p (.mv (.s 25))⟩])] (.one .nil))
                        (.block 2
                          (.loop [4] [2, 26, 27, 28, 29, 30, 31, 32, 33, 34, 35, 36]
                            (.seq
                              (.seq
                                (.ops [
                                    (none, [⟨none, some 26, .p (.mv (.s 4))⟩,
                                    ⟨none, some 27, .p (.bin .lss (.s 26) (.c (.int .i64 32)))⟩])] (.one .nil))
                                (.cond (.s 27)
                                  .skip
                                  (.exit 2)))
                              (.seq
                                (.block 3
                                  (.seq
                                    (.ops [
                                        (none, [⟨none, some 30, .p (.fld (.s 1) 1)⟩,
                                        ⟨none, some 31, .r (.ld (.s 30) none)⟩,
                                        ⟨none, some 32, .p (.mv (.s 3))⟩,
                                        ⟨none, some 33, .p (.idx (.s 31) (.s 32) none 1)⟩,
                                        ⟨none, some 34, .r (.ld (.s 33) none)⟩,
                                        ⟨none, some 35, .p (.mv (.s 4))⟩,
                                        ⟨none, some 36, .e (.call (.c (.func (.func 29) ⟨[]⟩ ⟨[]⟩)) [.s 34, .s 35])⟩])] (.one .nil))
                                    (.cond (.s 36)
                                      (.seq
                                        (.ops [
                                            (none, [⟨none, some 2, .p (.mv (.c (.int .i64 1)))⟩])] (.one .nil))
                                        .ret)
                                      .skip)))
                                (.ops [
                                    (none, [⟨none, some 28, .p (.mv (.s 4))⟩,
                                    ⟨none, some 29, .p (.bin .add (.s 28) (.c (.int .i64 1)))⟩,
                                    ⟨none, some 4, .p (.mv (.s 29))⟩])] (.one .nil))))))))
                    (.ops [
                        (none, [⟨none, some 22, .p (.mv (.s 3))⟩,
                        ⟨none, some 23, .p (.bin .add (.s 22) (.c (.int .i64 1)))⟩,
                        ⟨none, some 3, .p (.mv (.s 23))⟩])] (.one .nil)))))))
          (.seq
            (.ops [
                (none, [⟨none, some 2, .p (.mv (.c (.int .i64 0)))⟩])] (.one .nil))
            .ret)))))
theorem cfn9 : cfn Try.prog 9 = some ⟨37, 6, d9.erase, [(.s 2, none)]⟩ := by kernel_rfl
theorem ok9 : d9.ok 37 6 = true := by kernel_rfl
noncomputable def F9 (a0 : Value) (H : Heap) (nx : Nat) (k : EP) : Prop :=
  dBox a0 fun tc_1 => wNew (.cells tc_1 0) .ptr H nx fun t1_2 H1 nx1 =>
  wJoin (fun tj_3 =>
    wFld t1_2 0 fun t5_5 =>
    wLd t5_5 none H1 fun t6_6 =>
    wBin .lss t6_6 (.int .i64 0) fun t7_7 =>
    wGuard false t7_7 (
      wFld t1_2 0 fun t9_8 =>
      wLd t9_8 none H1 fun t10_9 =>
      wBin .gtr t10_9 (.int .i64 32) fun t11_10 =>
      tj_3 [t11_10] H1 nx1) (
      tj_3 [(.bool true)] H1 nx1)) (fun tL_4 H2 nx2 =>
    wIf (tL_4.getD 0 undef) (
      forceV (.int .i64 3) fun tv_11 => k tv_11 H2 nx2) (
      wFld t1_2 1 fun t13_12 =>
      wLd t13_12 none H2 fun t14_13 =>
      wLen t14_13 0 H2 fun t15_14 =>
      wBin .gtr t15_14 (.int .i64 64) fun t16_15 =>
      wIf t16_15 (
        forceV (.int .i64 12) fun tv_16 => k tv_16 H2 nx2) (
        wLoop (fun tih_17 tL_18 H3 nx3 =>
          wFld t1_2 1 fun t18_19 =>
          wLd t18_19 none H3 fun t19_20 =>
          wLen t19_20 0 H3 fun t20_21 =>
          wBin .lss (tL_18.getD 0 undef) t20_21 fun t21_22 =>
          wIf t21_22 (
            wFld t1_2 0 fun t24_23 =>
            wLd t24_23 none H3 fun t25_24 =>
            wLoop (fun tih_25 tL_26 H4 nx4 =>
              wBin .lss (tL_26.getD 0 undef) (.int .i64 32) fun t27_27 =>
              wIf t27_27 (
                wFld t1_2 1 fun t30_28 =>
                wLd t30_28 none H4 fun t31_29 =>
                wIdx t31_29 (tL_18.getD 0 undef) none 1 fun t33_30 =>
                wLd t33_30 none H4 fun t34_31 =>
                wCall Try.prog 29 [t34_31, (tL_26.getD 0 undef)] H4 nx4 fun t36_32 H5 nx5 =>
                wIf t36_32 (
                  forceV (.int .i64 1) fun tv_33 => k tv_33 H5 nx5) (
                  wBin .add (tL_26.getD 0 undef) (.int .i64 1) fun t29_34 =>
                  tih_25 [t29_34] H5 nx5)) (
                wBin .add (tL_18.getD 0 undef) (.int .i64 1) fun t23_35 =>
                tih_17 [t23_35] H4 nx4)) [t25_24] H3 nx3) (
            forceV (.int .i64 0) fun tv_36 => k tv_36 H3 nx3)) [(.int .i64 0)] H2 nx2)))
theorem eq9 (a0 : Value) (H : Heap) (nx : Nat) (k : EP) : wBody Try.prog 37 6 d9 [(.s 2, none)] [a0] H nx k = F9 a0 H nx k := by kernel_rfl
theorem spec9 {a0 : Value} {H : Heap} {nx : Nat} {k : EP} (h : F9 a0 H nx k) : Ans Try.prog 9 [a0] H nx k :=
  spec_of_body mixed namesOK cfn9 ok9 (by simp) ((eq9 a0 H nx k).symm ▸ h)

/-! 10: ordinal/ordinallaw26.Of -/
def d10 : D :=
  (.seq
    (.ops [
        (none, [⟨none, some 1, .a (.box (.s 0))⟩,
        ⟨none, some 2, .a (.alloc [.int .i64 0, .slice none 0 0])⟩])] (.one .nil))
    (.seq
      (.ops [
          (none, [⟨none, some 3, .p (.fld (.s 1) 0)⟩,
          ⟨none, some 4, .r (.ld (.s 3) none)⟩,
          ⟨none, some 5, .p (.fld (.s 1) 1)⟩,
          ⟨none, some 6, .r (.ld (.s 5) none)⟩,
          ⟨none, some 7, .p (.build [.int .i64 0, .slice none 0 0] [(0, 1), (1, 1)] [(0, .s 4), (1, .s 6)])⟩,
          ⟨none, none, .e (.st (.s 2) (.s 7) 2)⟩])] (.one .nil))
      .ret))
theorem cfn10 : cfn Try.prog 10 = some ⟨8, 4, d10.erase, [(.s 2, some (some 2))]⟩ := by kernel_rfl
theorem ok10 : d10.ok 8 4 = true := by kernel_rfl
noncomputable def F10 (a0 : Value) (H : Heap) (nx : Nat) (k : EP) : Prop :=
  dBox a0 fun tc_1 => wNew (.cells tc_1 0) .ptr H nx fun t1_2 H1 nx1 =>
  wNew (.cells [.int .i64 0, .slice none 0 0] 0) .ptr H1 nx1 fun t2_3 H2 nx2 =>
  wFld t1_2 0 fun t3_4 =>
  wLd t3_4 none H2 fun t4_5 =>
  wFld t1_2 1 fun t5_6 =>
  wLd t5_6 none H2 fun t6_7 =>
  wBuild [.int .i64 0, .slice none 0 0] [(0, 1), (1, 1)] [(0, t4_5), (1, t6_7)] fun t7_8 =>
  wSt t2_3 t7_8 2 H2 fun H3 =>
  wLd t2_3 (some 2) H3 fun tr_9 =>
  forceV tr_9 fun tv_10 => k tv_10 H3 nx2
theorem eq10 (a0 : Value) (H : Heap) (nx : Nat) (k : EP) : wBody Try.prog 8 4 d10 [(.s 2, some (some 2))] [a0] H nx k = F10 a0 H nx k := by kernel_rfl
theorem spec10 {a0 : Value} {H : Heap} {nx : Nat} {k : EP} (h : F10 a0 H nx k) : Ans Try.prog 10 [a0] H nx k :=
  spec_of_body mixed namesOK cfn10 ok10 (by simp) ((eq10 a0 H nx k).symm ▸ h)

/-! 30: ordinal/ordinalref30.wrong -/
def d30 : D :=
  (.seq
    (.ops [
        (none, [⟨none, some 7, .a (.box (.s 3))⟩,
        ⟨none, some 8, .p (.mv (.c (.int .i64 0)))⟩])] (.one .nil))
    (.seq
      (.join [20] [11, 12, 13, 14, 15, 16, 17, 18, 19]
        (.ops [
            (none, [⟨none, some 11, .p (.fld (.s 7) 0)⟩,
            ⟨none, some 12, .r (.ld (.s 11) none)⟩,
            ⟨none, some 13, .p (.mv (.s 2))⟩,
            ⟨none, some 14, .p (.bin .neq (.s 12) (.s 13))⟩,
            ⟨none, some 15, .p (.mv (.s 14))⟩]),
            (some (15, false), [⟨none, some 16, .p (.fld (.s 7) 1)⟩,
            ⟨none, some 17, .r (.ld (.s 16) none)⟩,
            ⟨none, some 18, .p (.mv (.s 2))⟩,
            ⟨none, some 19, .e (.call (.c (.func (.func 29) ⟨[]⟩ ⟨[]⟩)) [.s 17, .s 18])⟩]),
            (none, [⟨none, some 20, .p (.pick (.s 15) (.c (.bool true)) (.s 19))⟩])] (.one (.tst (.one .nil) (.one .nil))))
        (.cond (.s 20)
          (.seq
            (.ops [
                (none, [⟨none, some 8, .p (.mv (.c (.int .i64 1)))⟩])] (.one .nil))
            .ret)
          .skip))
      (.seq
        (.seq
          (.ops [
              (none, [⟨none, some 21, .p (.mv (.s 0))⟩,
              ⟨none, some 9, .p (.mv (.s 21))⟩])] (.one .nil))
          (.block 0
            (.loop [9] [8, 22, 23, 24, 25, 26, 27, 28, 29]
              (.seq
                (.seq
                  (.ops [
                      (none, [⟨none, some 22, .p (.mv (.s 9))⟩,
                      ⟨none, some 23, .p (.bin .lss (.s 22) (.c (.int .i64 32)))⟩])] (.one .nil))
                  (.cond (.s 23)
                    .skip
                    (.exit 0)))
                (.seq
                  (.block 1
                    (.seq
                      (.ops [
                          (none, [⟨none, some 26, .p (.fld (.s 7) 1)⟩,
                          ⟨none, some 27, .r (.ld (.s 26) none)⟩,
                          ⟨none, some 28, .p (.mv (.s 9))⟩,
                          ⟨none, some 29, .e (.call (.c (.func (.func 29) ⟨[]⟩ ⟨[]⟩)) [.s 27, .s 28])⟩])] (.one .nil))
                      (.cond (.s 29)
                        (.seq
                          (.ops [
                              (none, [⟨none, some 8, .p (.mv (.c (.int .i64 1)))⟩])] (.one .nil))
                          .ret)
                        .skip)))
                  (.ops [
                      (none, [⟨none, some 24, .p (.mv (.s 9))⟩,
                      ⟨none, some 25, .p (.bin .add (.s 24) (.c (.int .i64 1)))⟩,
                      ⟨none, some 9, .p (.mv (.s 25))⟩])] (.one .nil)))))))
        (.seq
          (.seq
            (.ops [
                (none, [⟨none, some 30, .p (.mv (.s 2))⟩,
                ⟨none, some 31, .p (.bin .add (.s 30) (.c (.int .i64 1)))⟩,
                ⟨none, some 10, .p (.mv (.s 31))⟩])] (.one .nil))
            (.block 2
              (.loop [10] [8, 32, 33, 34, 35, 36, 37, 38, 39, 40, 41, 42, 43, 44, 45]
                (.seq
                  (.join [39] [32, 33, 34, 35, 36, 37, 38]
                    (.ops [
                        (none, [⟨none, some 32, .p (.mv (.s 10))⟩,
                        ⟨none, some 33, .p (.mv (.s 0))⟩,
                        ⟨none, some 34, .p (.bin .lss (.s 32) (.s 33))⟩,
                        ⟨none, some 35, .p (.mv (.s 34))⟩]),
                        (some (35, true), [⟨none, some 36, .p (.mv (.s 2))⟩,
                        ⟨none, some 37, .p (.mv (.s 1))⟩,
                        ⟨none, some 38, .p (.bin .lss (.s 36) (.s 37))⟩]),
                        (none, [⟨none, some 39, .p (.pick (.s 35) (.s 38) (.c (.bool false)))⟩])] (.one (.tst (.one .nil) (.one .nil))))
                    (.cond (.s 39)
                      .skip
                      (.exit 2)))
                  (.seq
                    (.block 3
                      (.seq
                        (.ops [
                            (none, [⟨none, some 42, .p (.fld (.s 7) 1)⟩,
                            ⟨none, some 43, .r (.ld (.s 42) none)⟩,
                            ⟨none, some 44, .p (.mv (.s 10))⟩,
                            ⟨none, some 45, .e (.call (.c (.func (.func 29) ⟨[]⟩ ⟨[]⟩)) [.s 43, .s 44])⟩])] (.one .nil))
                        (.cond (.s 45)
                          (.seq
                            (.ops [
                                (none, [⟨none, some 8, .p (.mv (.c (.int .i64 16)))⟩])] (.one .nil))
                            .ret)
                          .skip)))
                    (.ops [
                        (none, [⟨none, some 40, .p (.mv (.s 10))⟩,
                        ⟨none, some 41, .p (.bin .add (.s 40) (.c (.int .i64 1)))⟩,
                        ⟨none, some 10, .p (.mv (.s 41))⟩])] (.one .nil)))))))
          (.seq
            (.join [76] [46, 47, 48, 49, 50, 51, 52, 53, 54, 55, 56, 57, 58, 59, 60, 61, 62, 63, 64, 65, 66, 67, 68, 69, 70, 71, 72, 73, 74, 75]
              (.ops [
                  (none, [⟨none, some 46, .p (.fld (.s 7) 1)⟩,
                  ⟨none, some 47, .r (.ld (.s 46) none)⟩,
                  ⟨none, some 48, .p (.bin .eql (.s 47) (.c (.int .u32 0)))⟩,
                  ⟨none, some 49, .p (.mv (.s 48))⟩]),
                  (some (49, true), [⟨none, some 50, .p (.fld (.s 7) 2)⟩,
                  ⟨none, some 51, .r (.ld (.s 50) none)⟩,
                  ⟨none, some 52, .p (.bin .neq (.s 51) (.c (.int .i64 (-1))))⟩]),
                  (none, [⟨none, some 53, .p (.pick (.s 49) (.s 52) (.c (.bool false)))⟩,
                  ⟨none, some 54, .p (.mv (.s 53))⟩]),
                  (some (54, false), [⟨none, some 55, .p (.fld (.s 7) 1)⟩,
                  ⟨none, some 56, .r (.ld (.s 55) none)⟩,
                  ⟨none, some 57, .p (.bin .neq (.s 56) (.c (.int .u32 0)))⟩,
                  ⟨none, some 58, .p (.mv (.s 57))⟩]),
                  (some (58, true), [⟨none, some 59, .p (.fld (.s 7) 2)⟩,
                  ⟨none, some 60, .r (.ld (.s 59) none)⟩,
                  ⟨none, some 61, .p (.bin .lss (.s 60) (.c (.int .i64 0)))⟩,
                  ⟨none, some 62, .p (.mv (.s 61))⟩]),
                  (some (62, false), [⟨none, some 63, .p (.fld (.s 7) 2)⟩,
                  ⟨none, some 64, .r (.ld (.s 63) none)⟩,
                  ⟨none, some 65, .p (.bin .gtr (.s 64) (.c (.int .i64 31)))⟩]),
                  (some (58, true), [⟨none, some 66, .p (.pick (.s 62) (.c (.bool true)) (.s 65))⟩,
                  ⟨none, some 67, .p (.mv (.s 66))⟩]),
                  (some (67, false), [⟨none, some 68, .p (.fld (.s 7) 1)⟩,
                  ⟨none, some 69, .r (.ld (.s 68) none)⟩,
                  ⟨none, some 70, .p (.fld (.s 7) 2)⟩,
                  ⟨none, some 71, .r (.ld (.s 70) none)⟩,
                  ⟨none, some 72, .e (.call (.c (.func (.func 29) ⟨[]⟩ ⟨[]⟩)) [.s 69, .s 71])⟩,
                  ⟨none, some 73, .p (.un .not (.s 72))⟩]),
                  (some (58, true), [⟨none, some 74, .p (.pick (.s 67) (.c (.bool true)) (.s 73))⟩]),
                  (some (54, false), [⟨none, some 75, .p (.pick (.s 58) (.s 74) (.c (.bool false)))⟩]),
                  (none, [⟨none, some 76, .p (.pick (.s 54) (.c (.bool true)) (.s 75))⟩])] (.one (.tst (.one (.tst (.tst (.tst (.one (.tst (.one (.one (.one .nil))) (.one (.one (.one .nil))))) (.one (.one (.one (.one (.one .nil)))))) (.one (.one (.one (.one (.one (.one .nil))))))) (.one (.one (.one (.one (.one (.one (.one .nil))))))))) (.one (.one (.tst (.tst (.one (.tst (.one (.one (.one .nil))) (.one (.one (.one .nil))))) (.one (.one (.one (.one (.one .nil)))))) (.one (.one (.one (.one (.one (.one .nil))))))))))))
              (.cond (.s 76)
                (.seq
                  (.ops [
                      (none, [⟨none, some 8, .p (.mv (.c (.int .i64 28)))⟩])] (.one .nil))
                  .ret)
                .skip))
            (.seq
              (.ops [
                  (none, [⟨none, some 8, .p (.mv (.c (.int .i64 0)))⟩])] (.one .nil))
              .ret))))))
theorem cfn30 : cfn Try.prog 30 = some ⟨77, 7, d30.erase, [(.s 8, none)]⟩ := by kernel_rfl
theorem ok30 : d30.ok 77 7 = true := by kernel_rfl
noncomputable def F30 (a0 a1 a2 a3 : Value) (H : Heap) (nx : Nat) (k : EP) : Prop :=
  dBox a3 fun tc_1 => wNew (.cells tc_1 0) .ptr H nx fun t7_2 H1 nx1 =>
  wJoin (fun tj_3 =>
    wFld t7_2 0 fun t11_5 =>
    wLd t11_5 none H1 fun t12_6 =>
    wBin .neq t12_6 a2 fun t14_7 =>
    wGuard false t14_7 (
      wFld t7_2 1 fun t16_8 =>
      wLd t16_8 none H1 fun t17_9 =>
      wCall Try.prog 29 [t17_9, a2] H1 nx1 fun t19_10 H3 nx3 =>
      tj_3 [t19_10] H3 nx3) (
      tj_3 [(.bool true)] H1 nx1)) (fun tL_4 H2 nx2 =>
    wIf (tL_4.getD 0 undef) (
      forceV (.int .i64 1) fun tv_11 => k tv_11 H2 nx2) (
      wLoop (fun tih_12 tL_13 H4 nx4 =>
        wBin .lss (tL_13.getD 0 undef) (.int .i64 32) fun t23_14 =>
        wIf t23_14 (
          wFld t7_2 1 fun t26_15 =>
          wLd t26_15 none H4 fun t27_16 =>
          wCall Try.prog 29 [t27_16, (tL_13.getD 0 undef)] H4 nx4 fun t29_17 H5 nx5 =>
          wIf t29_17 (
            forceV (.int .i64 1) fun tv_18 => k tv_18 H5 nx5) (
            wBin .add (tL_13.getD 0 undef) (.int .i64 1) fun t25_19 =>
            tih_12 [t25_19] H5 nx5)) (
          wBin .add a2 (.int .i64 1) fun t31_20 =>
          wLoop (fun tih_21 tL_22 H6 nx6 =>
            wJoin (fun tj_23 =>
              wBin .lss (tL_22.getD 0 undef) a0 fun t34_25 =>
              wGuard true t34_25 (
                wBin .lss a2 a1 fun t38_26 =>
                tj_23 [t38_26] H6 nx6) (
                tj_23 [(.bool false)] H6 nx6)) (fun tL_24 H7 nx7 =>
              wIf (tL_24.getD 0 undef) (
                wFld t7_2 1 fun t42_27 =>
                wLd t42_27 none H7 fun t43_28 =>
                wCall Try.prog 29 [t43_28, (tL_22.getD 0 undef)] H7 nx7 fun t45_29 H8 nx8 =>
                wIf t45_29 (
                  forceV (.int .i64 16) fun tv_30 => k tv_30 H8 nx8) (
                  wBin .add (tL_22.getD 0 undef) (.int .i64 1) fun t41_31 =>
                  tih_21 [t41_31] H8 nx8)) (
                wJoin (fun tj_32 =>
                  wFld t7_2 1 fun t46_34 =>
                  wLd t46_34 none H7 fun t47_35 =>
                  wBin .eql t47_35 (.int .u32 0) fun t48_36 =>
                  wGuard true t48_36 (
                    wFld t7_2 2 fun t50_37 =>
                    wLd t50_37 none H7 fun t51_38 =>
                    wBin .neq t51_38 (.int .i64 (-1)) fun t52_39 =>
                    wGuard false t52_39 (
                      wFld t7_2 1 fun t55_40 =>
                      wLd t55_40 none H7 fun t56_41 =>
                      wBin .neq t56_41 (.int .u32 0) fun t57_42 =>
                      wGuard true t57_42 (
                        wFld t7_2 2 fun t59_43 =>
                        wLd t59_43 none H7 fun t60_44 =>
                        wBin .lss t60_44 (.int .i64 0) fun t61_45 =>
                        wGuard false t61_45 (
                          wFld t7_2 2 fun t63_46 =>
                          wLd t63_46 none H7 fun t64_47 =>
                          wBin .gtr t64_47 (.int .i64 31) fun t65_48 =>
                            wGuard false t65_48 (
                              wFld t7_2 1 fun t68_49 =>
                              wLd t68_49 none H7 fun t69_50 =>
                              wFld t7_2 2 fun t70_51 =>
                              wLd t70_51 none H7 fun t71_52 =>
                              wCall Try.prog 29 [t69_50, t71_52] H7 nx7 fun t72_53 H10 nx10 =>
                              wUn .not t72_53 fun t73_54 =>
                                  tj_32 [t73_54] H10 nx10) (
                                  tj_32 [(.bool true)] H7 nx7)) (
                                  tj_32 [(.bool true)] H7 nx7)) (
                                  tj_32 [(.bool false)] H7 nx7)) (
                                  tj_32 [(.bool true)] H7 nx7)) (
                      wFld t7_2 1 fun t55_55 =>
                      wLd t55_55 none H7 fun t56_56 =>
                      wBin .neq t56_56 (.int .u32 0) fun t57_57 =>
                      wGuard true t57_57 (
                        wFld t7_2 2 fun t59_58 =>
                        wLd t59_58 none H7 fun t60_59 =>
                        wBin .lss t60_59 (.int .i64 0) fun t61_60 =>
                        wGuard false t61_60 (
                          wFld t7_2 2 fun t63_61 =>
                          wLd t63_61 none H7 fun t64_62 =>
                          wBin .gtr t64_62 (.int .i64 31) fun t65_63 =>
                            wGuard false t65_63 (
                              wFld t7_2 1 fun t68_64 =>
                              wLd t68_64 none H7 fun t69_65 =>
                              wFld t7_2 2 fun t70_66 =>
                              wLd t70_66 none H7 fun t71_67 =>
                              wCall Try.prog 29 [t69_65, t71_67] H7 nx7 fun t72_68 H11 nx11 =>
                              wUn .not t72_68 fun t73_69 =>
                                  tj_32 [t73_69] H11 nx11) (
                                  tj_32 [(.bool true)] H7 nx7)) (
                                  tj_32 [(.bool true)] H7 nx7)) (
                                  tj_32 [(.bool false)] H7 nx7))) (fun tL_33 H9 nx9 =>
                  wIf (tL_33.getD 0 undef) (
                    forceV (.int .i64 28) fun tv_70 => k tv_70 H9 nx9) (
                    forceV (.int .i64 0) fun tv_71 => k tv_71 H9 nx9))))) [t31_20] H4 nx4)) [a0] H2 nx2))
theorem eq30 (a0 a1 a2 a3 : Value) (H : Heap) (nx : Nat) (k : EP) : wBody Try.prog 77 7 d30 [(.s 8, none)] [a0, a1, a2, a3] H nx k = F30 a0 a1 a2 a3 H nx k := by kernel_rfl
theorem spec30 {a0 a1 a2 a3 : Value} {H : Heap} {nx : Nat} {k : EP} (h : F30 a0 a1 a2 a3 H nx k) : Ans Try.prog 30 [a0, a1, a2, a3] H nx k :=
  spec_of_body mixed namesOK cfn30 ok30 (by simp) ((eq30 a0 a1 a2 a3 H nx k).symm ▸ h)

/-! 32: ordinal/ordinalref30.Set -/
def d32 : D :=
  (.seq
    (.ops [
        (none, [⟨none, some 1, .a (.box (.s 0))⟩,
        ⟨none, some 2, .p (.mv (.c (.int .u32 0)))⟩])] (.one .nil))
    (.seq
      (.draw [0, 1, 0, 4, 12, 31, 63] [
          (none, [⟨none, some 3, .p (.fld (.s 1) 1)⟩,
          ⟨none, some 4, .r (.ld (.s 3) none)⟩,
          ⟨none, some 5, .p (.fld (.s 1) 0)⟩,
          ⟨none, some 6, .r (.ld (.s 5) none)⟩,
          ⟨none, some 7, .p (.bin .shl (.c (.int .u32 1)) (.s 6))⟩,
          ⟨none, some 8, .p (.bin .or (.s 4) (.s 7))⟩,
          ⟨none, some 2, .p (.mv (.s 8))⟩])] (.one .nil))
      .ret))
theorem cfn32 : cfn Try.prog 32 = some ⟨9, 4, d32.erase, [(.s 2, none)]⟩ := by kernel_rfl
theorem ok32 : d32.ok 9 4 = true := by kernel_rfl
noncomputable def F32 (a0 : Value) (H : Heap) (nx : Nat) (k : EP) : Prop :=
  dBox a0 fun tc_1 => wNew (.cells tc_1 0) .ptr H nx fun t1_2 H1 nx1 =>
  forceN (nx1 + 7) fun nx2 =>
  wFld t1_2 1 fun t3_3 =>
  wLd t3_3 none H1 fun t4_4 =>
  wFld t1_2 0 fun t5_5 =>
  wLd t5_5 none H1 fun t6_6 =>
  wBin .shl (.int .u32 1) t6_6 fun t7_7 =>
  wBin .or t4_4 t7_7 fun t8_8 =>
  (((((wLd t5_5 none H1 fun tq_10 => tq_10 = t6_6) ∧ True) ∧ (((wLd t3_3 none H1 fun tq_9 => tq_9 = t4_4) ∧ True) ∧ True))) ∧ (
    forceV t8_8 fun tv_11 => k tv_11 H1 nx2)) ∨ False
theorem eq32 (a0 : Value) (H : Heap) (nx : Nat) (k : EP) : wBody Try.prog 9 4 d32 [(.s 2, none)] [a0] H nx k = F32 a0 H nx k := by kernel_rfl
theorem spec32 {a0 : Value} {H : Heap} {nx : Nat} {k : EP} (h : F32 a0 H nx k) : Ans Try.prog 32 [a0] H nx k :=
  spec_of_body mixed namesOK cfn32 ok32 (by simp) ((eq32 a0 H nx k).symm ▸ h)

/-! 11: ordinal/ordinalref30.Check -/
def d11 : D :=
  (.seq
    (.ops [
        (none, [⟨none, some 3, .a (.box (.s 0))⟩,
        ⟨none, some 6, .p (.mv (.c (.int .i64 0)))⟩])] (.one .nil))
    (.seq
      (.seq
        (.ops [
            (none, [⟨none, some 17, .p (.mv (.s 2))⟩,
            ⟨none, some 18, .r (.len (.s 17) 0)⟩,
            ⟨none, some 19, .p (.fld (.s 3) 0)⟩,
            ⟨none, some 20, .r (.ld (.s 19) none)⟩,
            ⟨none, some 21, .p (.bin .neq (.s 18) (.s 20))⟩])] (.one .nil))
        (.cond (.s 21)
          (.seq
            (.ops [
                (none, [⟨none, some 6, .p (.mv (.c (.int .i64 6)))⟩])] (.one .nil))
            .ret)
          .skip))
      (.seq
        (.seq
          (.ops [
              (none, [⟨none, some 7, .p (.mv (.c (.int .i64 0)))⟩])] (.one .nil))
          (.block 0
            (.loop [7] [6, 8, 22, 23, 24, 25, 26, 27, 28, 29, 30, 31, 32, 33, 34, 35, 36, 37, 38, 39]
              (.seq
                (.seq
                  (.ops [
                      (none, [⟨none, some 22, .p (.mv (.s 7))⟩,
                      ⟨none, some 23, .p (.fld (.s 3) 0)⟩,
                      ⟨none, some 24, .r (.ld (.s 23) none)⟩,
                      ⟨none, some 25, .p (.bin .lss (.s 22) (.s 24))⟩])] (.one .nil))
                  (.cond (.s 25)
                    .skip
                    (.exit 0)))
                (.seq
                  (.block 1
                    (.seq
                      (.draw [0, 1, 0, 0, 0, 0, 48, 112, 255, 511] [
                          (none, [⟨none, some 28, .p (.fld (.s 3) 0)⟩,
                          ⟨none, some 29, .r (.ld (.s 28) none)⟩,
                          ⟨none, some 30, .p (.mv (.s 1))⟩,
                          ⟨none, some 31, .p (.mv (.s 7))⟩,
                          ⟨none, some 32, .p (.mv (.s 2))⟩,
                          ⟨none, some 33, .p (.mv (.s 7))⟩,
                          ⟨none, some 34, .p (.idx (.s 32) (.s 33) none 3)⟩,
                          ⟨none, some 35, .r (.ld (.s 34) (some 3))⟩,
                          ⟨none, some 36, .e (.call (.c (.func (.func 30) ⟨[]⟩ ⟨[]⟩)) [.s 29, .s 30, .s 31, .s 35])⟩,
                          ⟨none, some 8, .p (.mv (.s 36))⟩])] (.one .nil))
                      (.seq
                        (.ops [
                            (none, [⟨none, some 37, .p (.mv (.s 8))⟩,
                            ⟨none, some 38, .p (.bin .neq (.s 37) (.c (.int .i64 0)))⟩])] (.one .nil))
                        (.cond (.s 38)
                          (.seq
                            (.ops [
                                (none, [⟨none, some 39, .p (.mv (.s 8))⟩,
                                ⟨none, some 6, .p (.mv (.s 39))⟩])] (.one .nil))
                            .ret)
                          .skip))))
                  (.ops [
                      (none, [⟨none, some 26, .p (.mv (.s 7))⟩,
                      ⟨none, some 27, .p (.bin .add (.s 26) (.c (.int .i64 1)))⟩,
                      ⟨none, some 7, .p (.mv (.s 27))⟩])] (.one .nil)))))))
        (.seq
          (.seq
            (.ops [
                (none, [⟨none, some 9, .p (.mv (.c (.int .i64 0)))⟩])] (.one .nil))
            (.block 2
              (.loop [9] [6, 10, 11, 40, 41, 42, 43, 44, 45, 46, 47, 48, 49, 50, 51, 52, 53, 54, 55, 56, 57, 58, 59, 60, 61, 62, 63]
                (.seq
                  (.seq
                    (.ops [
                        (none, [⟨none, some 40, .p (.mv (.s 9))⟩,
                        ⟨none, some 41, .p (.fld (.s 3) 0)⟩,
                        ⟨none, some 42, .r (.ld (.s 41) none)⟩,
                        ⟨none, some 43, .p (.bin .lss (.s 40) (.s 42))⟩])] (.one .nil))
                    (.cond (.s 43)
                      .skip
                      (.exit 2)))
                  (.seq
                    (.block 3
                      (.seq
                        (.ops [
                            (none, [⟨none, some 46, .p (.mv (.s 9))⟩,
                            ⟨none, some 10, .p (.mv (.s 46))⟩])] (.one .nil))
                        (.seq
                          (.seq
                            (.ops [
                                (none, [⟨none, some 11, .p (.mv (.c (.int .i64 0)))⟩])] (.one .nil))
                            (.block 4
                              (.loop [10, 11] [47, 48, 49, 50, 51, 52, 53, 54, 55, 56, 57, 58, 59, 60, 61]
                                (.seq
                                  (.join [54] [47, 48, 49, 50, 51, 52, 53]
                                    (.ops [
                                        (none, [⟨none, some 47, .p (.mv (.s 11))⟩,
                                        ⟨none, some 48, .p (.fld (.s 3) 0)⟩,
                                        ⟨none, some 49, .r (.ld (.s 48) none)⟩,
                                        ⟨none, some 50, .p (.bin .leq (.s 47) (.s 49))⟩,
                                        ⟨none, some 51, .p (.mv (.s 50))⟩]),
                                        (some (51, true), [⟨none, some 52, .p (.mv (.s 10))⟩,
                                        ⟨none, some 53, .p (.bin .geq (.s 52) (.c (.int .i64 0)))⟩]),
                                        (none, [⟨none, some 54, .p (.pick (.s 51) (.s 53) (.c (.bool false)))⟩])] (.one (.tst (.one .nil) (.one .nil))))
                                    (.cond (.s 54)
                                      .skip
                                      (.exit 4)))
                                  (.seq
                                    (.block 5
                                      (.ops [
                                          (none, [⟨none, some 57, .p (.mv (.s 2))⟩,
                                          ⟨none, some 58, .p (.mv (.s 10))⟩,
                                          ⟨none, some 59, .p (.idx (.s 57) (.s 58) none 3)⟩,
                                          ⟨none, some 60, .p (.fld (.s 59) 2)⟩,
                                          ⟨none, some 61, .r (.ld (.s 60) none)⟩,
                                          ⟨none, some 10, .p (.mv (.s 61))⟩])] (.one .nil)))
                                    (.ops [
                                        (none, [⟨none, some 55, .p (.mv (.s 11))⟩,
                                        ⟨none, some 56, .p (.bin .add (.s 55) (.c (.int .i64 1)))⟩,
                                        ⟨none, some 11, .p (.mv (.s 56))⟩])] (.one .nil)))))))
                          (.seq
                            (.ops [
                                (none, [⟨none, some 62, .p (.mv (.s 10))⟩,
                                ⟨none, some 63, .p (.bin .geq (.s 62) (.c (.int .i64 0)))⟩])] (.one .nil))
                            (.cond (.s 63)
                              (.seq
                                (.ops [
                                    (none, [⟨none, some 6, .p (.mv (.c (.int .i64 16)))⟩])] (.one .nil))
                                .ret)
                              .skip)))))
                    (.ops [
                        (none, [⟨none, some 44, .p (.mv (.s 9))⟩,
                        ⟨none, some 45, .p (.bin .add (.s 44) (.c (.int .i64 1)))⟩,
                        ⟨none, some 9, .p (.mv (.s 45))⟩])] (.one .nil)))))))
          (.seq
            (.seq
              (.ops [
                  (none, [⟨none, some 12, .p (.mv (.c (.int .i64 0)))⟩])] (.one .nil))
              (.block 6
                (.loop [12] [6, 13, 64, 65, 66, 67, 68, 69, 70, 71, 72, 73, 74, 75, 76, 77, 78, 79, 80, 81, 82, 83, 84, 85, 86, 87, 88, 89, 90]
                  (.seq
                    (.seq
                      (.ops [
                          (none, [⟨none, some 64, .p (.mv (.s 12))⟩,
                          ⟨none, some 65, .p (.fld (.s 3) 0)⟩,
                          ⟨none, some 66, .r (.ld (.s 65) none)⟩,
                          ⟨none, some 67, .p (.bin .lss (.s 64) (.s 66))⟩])] (.one .nil))
                      (.cond (.s 67)
                        .skip
                        (.exit 6)))
                    (.seq
                      (.block 7
                        (.seq
                          (.ops [
                              (none, [⟨none, some 70, .p (.mv (.s 2))⟩,
                              ⟨none, some 71, .p (.mv (.s 12))⟩,
                              ⟨none, some 72, .p (.idx (.s 70) (.s 71) none 3)⟩,
                              ⟨none, some 73, .p (.fld (.s 72) 2)⟩,
                              ⟨none, some 74, .r (.ld (.s 73) none)⟩,
                              ⟨none, some 13, .p (.mv (.s 74))⟩])] (.one .nil))
                          (.join [90] [75, 76, 77, 78, 79, 80, 81, 82, 83, 84, 85, 86, 87, 88, 89]
                            (.draw [0, 1, 3, 7, 7, 31, 63, 127, 7, 7, 775, 1799, 3847, 8191, 16383, 32767] [
                                (none, [⟨none, some 75, .p (.mv (.s 13))⟩,
                                ⟨none, some 76, .p (.bin .geq (.s 75) (.c (.int .i64 0)))⟩,
                                ⟨none, some 77, .p (.mv (.s 76))⟩]),
                                (some (77, true), [⟨none, some 78, .p (.mv (.s 2))⟩,
                                ⟨none, some 79, .p (.mv (.s 13))⟩,
                                ⟨none, some 80, .p (.idx (.s 78) (.s 79) none 3)⟩,
                                ⟨none, some 81, .r (.ld (.s 80) (some 3))⟩,
                                ⟨none, some 82, .e (.call (.c (.func (.func 32) ⟨[]⟩ ⟨[]⟩)) [.s 81])⟩,
                                ⟨none, some 83, .p (.mv (.s 2))⟩,
                                ⟨none, some 84, .p (.mv (.s 12))⟩,
                                ⟨none, some 85, .p (.idx (.s 83) (.s 84) none 3)⟩,
                                ⟨none, some 86, .p (.fld (.s 85) 1)⟩,
                                ⟨none, some 87, .r (.ld (.s 86) none)⟩,
                                ⟨none, some 88, .e (.call (.c (.func (.func 31) ⟨[]⟩ ⟨[]⟩)) [.s 82, .s 87])⟩,
                                ⟨none, some 89, .p (.un .not (.s 88))⟩]),
                                (none, [⟨none, some 90, .p (.pick (.s 77) (.s 89) (.c (.bool false)))⟩])] (.one (.tst (.one .nil) (.one .nil))))
                            (.cond (.s 90)
                              (.seq
                                (.ops [
                                    (none, [⟨none, some 6, .p (.mv (.c (.int .i64 28)))⟩])] (.one .nil))
                                .ret)
                              .skip))))
                      (.ops [
                          (none, [⟨none, some 68, .p (.mv (.s 12))⟩,
                          ⟨none, some 69, .p (.bin .add (.s 68) (.c (.int .i64 1)))⟩,
                          ⟨none, some 12, .p (.mv (.s 69))⟩])] (.one .nil)))))))
            (.seq
              (.seq
                (.ops [
                    (none, [⟨none, some 14, .p (.mv (.c (.int .i64 0)))⟩])] (.one .nil))
                (.block 8
                  (.loop [14] [6, 15, 16, 91, 92, 93, 94, 95, 96, 97, 98, 99, 100, 101, 102, 103, 104, 105, 106, 107, 108, 109, 110, 111, 112, 113, 114, 115, 116, 117, 118, 119, 120, 121, 122, 123, 124, 125]
                    (.seq
                      (.seq
                        (.ops [
                            (none, [⟨none, some 91, .p (.mv (.s 14))⟩,
                            ⟨none, some 92, .p (.fld (.s 3) 1)⟩,
                            ⟨none, some 93, .r (.ld (.s 92) none)⟩,
                            ⟨none, some 94, .r (.len (.s 93) 0)⟩,
                            ⟨none, some 95, .p (.bin .lss (.s 91) (.s 94))⟩])] (.one .nil))
                        (.cond (.s 95)
                          .skip
                          (.exit 8)))
                      (.seq
                        (.block 9
                          (.seq
                            (.ops [
                                (none, [⟨none, some 98, .p (.fld (.s 3) 1)⟩,
                                ⟨none, some 99, .r (.ld (.s 98) none)⟩,
                                ⟨none, some 100, .p (.mv (.s 14))⟩,
                                ⟨none, some 101, .p (.idx (.s 99) (.s 100) none 1)⟩,
                                ⟨none, some 102, .r (.ld (.s 101) none)⟩,
                                ⟨none, some 103, .p (.bin .eql (.s 102) (.c (.int .u32 0)))⟩,
                                ⟨none, some 15, .p (.mv (.s 103))⟩])] (.one .nil))
                            (.seq
                              (.seq
                                (.ops [
                                    (none, [⟨none, some 16, .p (.mv (.c (.int .i64 0)))⟩])] (.one .nil))
                                (.block 10
                                  (.loop [15, 16] [104, 105, 106, 107, 108, 109, 110, 111, 112, 113, 114, 115, 116, 117, 118, 119, 120, 121, 122, 123]
                                    (.seq
                                      (.seq
                                        (.ops [
                                            (none, [⟨none, some 104, .p (.mv (.s 16))⟩,
                                            ⟨none, some 105, .p (.fld (.s 3) 0)⟩,
                                            ⟨none, some 106, .r (.ld (.s 105) none)⟩,
                                            ⟨none, some 107, .p (.bin .lss (.s 104) (.s 106))⟩])] (.one .nil))
                                        (.cond (.s 107)
                                          .skip
                                          (.exit 10)))
                                      (.join [15] [110, 111, 112, 113, 114, 115, 116, 117, 118, 119, 120, 121, 122, 123]
                                        (.block 11
                                          (.draw [0, 1, 3, 3, 15, 31, 63, 3, 131, 3, 899, 1923, 4095, 8191, 16383] [
                                              (none, [⟨none, some 110, .p (.mv (.s 15))⟩,
                                              ⟨none, some 111, .p (.mv (.s 110))⟩]),
                                              (some (111, false), [⟨none, some 112, .p (.mv (.s 2))⟩,
                                              ⟨none, some 113, .p (.mv (.s 16))⟩,
                                              ⟨none, some 114, .p (.idx (.s 112) (.s 113) none 3)⟩,
                                              ⟨none, some 115, .r (.ld (.s 114) (some 3))⟩,
                                              ⟨none, some 116, .e (.call (.c (.func (.func 32) ⟨[]⟩ ⟨[]⟩)) [.s 115])⟩,
                                              ⟨none, some 117, .p (.fld (.s 3) 1)⟩,
                                              ⟨none, some 118, .r (.ld (.s 117) none)⟩,
                                              ⟨none, some 119, .p (.mv (.s 14))⟩,
                                              ⟨none, some 120, .p (.idx (.s 118) (.s 119) none 1)⟩,
                                              ⟨none, some 121, .r (.ld (.s 120) none)⟩,
                                              ⟨none, some 122, .e (.call (.c (.func (.func 31) ⟨[]⟩ ⟨[]⟩)) [.s 116, .s 121])⟩]),
                                              (none, [⟨none, some 123, .p (.pick (.s 111) (.c (.bool true)) (.s 122))⟩,
                                              ⟨none, some 15, .p (.mv (.s 123))⟩])] (.one (.tst (.one .nil) (.one .nil)))))
                                        (.ops [
                                            (none, [⟨none, some 108, .p (.mv (.s 16))⟩,
                                            ⟨none, some 109, .p (.bin .add (.s 108) (.c (.int .i64 1)))⟩,
                                            ⟨none, some 16, .p (.mv (.s 109))⟩])] (.one .nil)))))))
                              (.seq
                                (.ops [
                                    (none, [⟨none, some 124, .p (.mv (.s 15))⟩,
                                    ⟨none, some 125, .p (.un .not (.s 124))⟩])] (.one .nil))
                                (.cond (.s 125)
                                  (.seq
                                    (.ops [
                                        (none, [⟨none, some 6, .p (.mv (.c (.int .i64 9)))⟩])] (.one .nil))
                                    .ret)
                                  .skip)))))
                        (.ops [
                            (none, [⟨none, some 96, .p (.mv (.s 14))⟩,
                            ⟨none, some 97, .p (.bin .add (.s 96) (.c (.int .i64 1)))⟩,
                            ⟨none, some 14, .p (.mv (.s 97))⟩])] (.one .nil)))))))
              (.seq
                (.ops [
                    (none, [⟨none, some 6, .p (.mv (.c (.int .i64 0)))⟩])] (.one .nil))
                .ret)))))))
theorem cfn11 : cfn Try.prog 11 = some ⟨126, 7, d11.erase, [(.s 6, none)]⟩ := by kernel_rfl
theorem ok11 : d11.ok 126 7 = true := by kernel_rfl
noncomputable def F11 (a0 a1 a2 : Value) (H : Heap) (nx : Nat) (k : EP) : Prop :=
  dBox a0 fun tc_1 => wNew (.cells tc_1 0) .ptr H nx fun t3_2 H1 nx1 =>
  wLen a2 0 H1 fun t18_3 =>
  wFld t3_2 0 fun t19_4 =>
  wLd t19_4 none H1 fun t20_5 =>
  wBin .neq t18_3 t20_5 fun t21_6 =>
  wIf t21_6 (
    forceV (.int .i64 6) fun tv_7 => k tv_7 H1 nx1) (
    wLoop (fun tih_8 tL_9 H2 nx2 =>
      wFld t3_2 0 fun t23_10 =>
      wLd t23_10 none H2 fun t24_11 =>
      wBin .lss (tL_9.getD 0 undef) t24_11 fun t25_12 =>
      wIf t25_12 (
        forceN (nx2 + 10) fun nx3 =>
        wFld t3_2 0 fun t28_13 =>
        wLd t28_13 none H2 fun t29_14 =>
        wIdx a2 (tL_9.getD 0 undef) none 3 fun t34_15 =>
        wLd t34_15 (some 3) H2 fun t35_16 =>
        wCall Try.prog 30 [t29_14, a1, (tL_9.getD 0 undef), t35_16] H2 nx3 fun t36_17 H4 nx4 =>
        (((((True) ∧ ((wLd t34_15 (some 3) H2 fun tq_19 => tq_19 = t35_16) ∧ True)) ∧ (((True) ∧ ((wLd t28_13 none H2 fun tq_18 => tq_18 = t29_14) ∧ True)) ∧ True))) ∧ (
          wBin .neq t36_17 (.int .i64 0) fun t38_20 =>
          wIf t38_20 (
            forceV t36_17 fun tv_21 => k tv_21 H4 nx4) (
            wBin .add (tL_9.getD 0 undef) (.int .i64 1) fun t27_22 =>
            tih_8 [t27_22] H4 nx4))) ∨ False) (
        wLoop (fun tih_23 tL_24 H5 nx5 =>
          wFld t3_2 0 fun t41_25 =>
          wLd t41_25 none H5 fun t42_26 =>
          wBin .lss (tL_24.getD 0 undef) t42_26 fun t43_27 =>
          wIf t43_27 (
            wLoop (fun tih_28 tL_29 H6 nx6 =>
              wJoin (fun tj_30 =>
                wFld t3_2 0 fun t48_32 =>
                wLd t48_32 none H6 fun t49_33 =>
                wBin .leq (tL_29.getD 1 undef) t49_33 fun t50_34 =>
                wGuard true t50_34 (
                  wBin .geq (tL_29.getD 0 undef) (.int .i64 0) fun t53_35 =>
                  tj_30 [t53_35] H6 nx6) (
                  tj_30 [(.bool false)] H6 nx6)) (fun tL_31 H7 nx7 =>
                wIf (tL_31.getD 0 undef) (
                  wIdx a2 (tL_29.getD 0 undef) none 3 fun t59_36 =>
                  wFld t59_36 2 fun t60_37 =>
                  wLd t60_37 none H7 fun t61_38 =>
                  wBin .add (tL_29.getD 1 undef) (.int .i64 1) fun t56_39 =>
                  tih_28 [t61_38, t56_39] H7 nx7) (
                  wBin .geq (tL_29.getD 0 undef) (.int .i64 0) fun t63_40 =>
                  wIf t63_40 (
                    forceV (.int .i64 16) fun tv_41 => k tv_41 H7 nx7) (
                    wBin .add (tL_24.getD 0 undef) (.int .i64 1) fun t45_42 =>
                    tih_23 [t45_42] H7 nx7)))) [(tL_24.getD 0 undef), (.int .i64 0)] H5 nx5) (
            wLoop (fun tih_43 tL_44 H8 nx8 =>
              wFld t3_2 0 fun t65_45 =>
              wLd t65_45 none H8 fun t66_46 =>
              wBin .lss (tL_44.getD 0 undef) t66_46 fun t67_47 =>
              wIf t67_47 (
                wIdx a2 (tL_44.getD 0 undef) none 3 fun t72_48 =>
                wFld t72_48 2 fun t73_49 =>
                wLd t73_49 none H8 fun t74_50 =>
                wJoin (fun tj_51 =>
                  forceN (nx8 + 16) fun nx10 =>
                  wBin .geq t74_50 (.int .i64 0) fun t76_53 =>
                  wGuard true t76_53 (
                    wIdx a2 t74_50 none 3 fun t80_54 =>
                    wLd t80_54 (some 3) H8 fun t81_55 =>
                    wCall Try.prog 32 [t81_55] H8 nx10 fun t82_56 H11 nx11 =>
                    wIdx a2 (tL_44.getD 0 undef) none 3 fun t85_57 =>
                    wFld t85_57 1 fun t86_58 =>
                    wLd t86_58 none H11 fun t87_59 =>
                    wCall Try.prog 31 [t82_56, t87_59] H11 nx11 fun t88_60 H12 nx12 =>
                    wUn .not t88_60 fun t89_61 =>
                    (((((True) ∧ ((wLd t86_58 none H11 fun tq_63 => tq_63 = t87_59) ∧ ((wLd t86_58 none H8 fun tq_64 => tq_64 = t87_59) ∧ True))) ∧ (((True) ∧ ((True) ∧ ((wLd t80_54 (some 3) H8 fun tq_62 => tq_62 = t81_55) ∧ True))) ∧ True))) ∧ (
                      tj_51 [t89_61] H12 nx12)) ∨ False) (
                    ((True) ∧ (
                      tj_51 [(.bool false)] H8 nx10)) ∨ False)) (fun tL_52 H9 nx9 =>
                  wIf (tL_52.getD 0 undef) (
                    forceV (.int .i64 28) fun tv_65 => k tv_65 H9 nx9) (
                    wBin .add (tL_44.getD 0 undef) (.int .i64 1) fun t69_66 =>
                    tih_43 [t69_66] H9 nx9))) (
                wLoop (fun tih_67 tL_68 H13 nx13 =>
                  wFld t3_2 1 fun t92_69 =>
                  wLd t92_69 none H13 fun t93_70 =>
                  wLen t93_70 0 H13 fun t94_71 =>
                  wBin .lss (tL_68.getD 0 undef) t94_71 fun t95_72 =>
                  wIf t95_72 (
                    wFld t3_2 1 fun t98_73 =>
                    wLd t98_73 none H13 fun t99_74 =>
                    wIdx t99_74 (tL_68.getD 0 undef) none 1 fun t101_75 =>
                    wLd t101_75 none H13 fun t102_76 =>
                    wBin .eql t102_76 (.int .u32 0) fun t103_77 =>
                    wLoop (fun tih_78 tL_79 H14 nx14 =>
                      wFld t3_2 0 fun t105_80 =>
                      wLd t105_80 none H14 fun t106_81 =>
                      wBin .lss (tL_79.getD 1 undef) t106_81 fun t107_82 =>
                      wIf t107_82 (
                        wJoin (fun tj_83 =>
                          forceN (nx14 + 15) fun nx16 =>
                          wGuard false (tL_79.getD 0 undef) (
                            wIdx a2 (tL_79.getD 1 undef) none 3 fun t114_85 =>
                            wLd t114_85 (some 3) H14 fun t115_86 =>
                            wCall Try.prog 32 [t115_86] H14 nx16 fun t116_87 H17 nx17 =>
                            wFld t3_2 1 fun t117_88 =>
                            wLd t117_88 none H17 fun t118_89 =>
                            wIdx t118_89 (tL_68.getD 0 undef) none 1 fun t120_90 =>
                            wLd t120_90 none H17 fun t121_91 =>
                            wCall Try.prog 31 [t116_87, t121_91] H17 nx17 fun t122_92 H18 nx18 =>
                            (((((True) ∧ ((wLd t120_90 none H17 fun tq_96 => tq_96 = t121_91) ∧ ((wLd t120_90 none H14 fun tq_97 => tq_97 = t121_91) ∧ True))) ∧ (((True) ∧ ((wLd t117_88 none H17 fun tq_94 => tq_94 = t118_89) ∧ ((wLd t117_88 none H14 fun tq_95 => tq_95 = t118_89) ∧ True))) ∧ (((True) ∧ ((True) ∧ ((wLd t114_85 (some 3) H14 fun tq_93 => tq_93 = t115_86) ∧ True))) ∧ True)))) ∧ (
                              tj_83 [t122_92] H18 nx18)) ∨ False) (
                            ((True) ∧ (
                              tj_83 [(.bool true)] H14 nx16)) ∨ False)) (fun tL_84 H15 nx15 =>
                          wBin .add (tL_79.getD 1 undef) (.int .i64 1) fun t109_98 =>
                          tih_78 [(tL_84.getD 0 undef), t109_98] H15 nx15)) (
                        wUn .not (tL_79.getD 0 undef) fun t125_99 =>
                        wIf t125_99 (
                          forceV (.int .i64 9) fun tv_100 => k tv_100 H14 nx14) (
                          wBin .add (tL_68.getD 0 undef) (.int .i64 1) fun t97_101 =>
                          tih_67 [t97_101] H14 nx14))) [t103_77, (.int .i64 0)] H13 nx13) (
                    forceV (.int .i64 0) fun tv_102 => k tv_102 H13 nx13)) [(.int .i64 0)] H8 nx8)) [(.int .i64 0)] H5 nx5)) [(.int .i64 0)] H2 nx2)) [(.int .i64 0)] H1 nx1)
theorem eq11 (a0 a1 a2 : Value) (H : Heap) (nx : Nat) (k : EP) : wBody Try.prog 126 7 d11 [(.s 6, none)] [a0, a1, a2] H nx k = F11 a0 a1 a2 H nx k := by kernel_rfl
theorem spec11 {a0 a1 a2 : Value} {H : Heap} {nx : Nat} {k : EP} (h : F11 a0 a1 a2 H nx k) : Ans Try.prog 11 [a0, a1, a2] H nx k :=
  spec_of_body mixed namesOK cfn11 ok11 (by simp) ((eq11 a0 a1 a2 H nx k).symm ▸ h)

/-! 12: ordinal/ordinallaw30.of -/
def d12 : D :=
  (.seq
    (.ops [
        (none, [⟨none, some 2, .p (.mv (.c (.slice none 0 0)))⟩])] (.one .nil))
    (.seq
      (.ops [
          (none, [⟨none, some 3, .p (.mv (.c (.slice none 0 0)))⟩])] (.one .nil))
      (.seq
        (.seq
          (.ops [
              (none, [⟨none, some 6, .p (.mv (.s 0))⟩,
              ⟨none, some 7, .r (.len (.s 6) 0)⟩,
              ⟨none, some 8, .p (.mv (.c (.int .i64 0)))⟩])] (.one .nil))
          (.block 0
            (.loop [3, 8] [5, 9, 10, 11, 12, 13, 14, 15, 16]
              (.seq
                (.ops [
                    (none, [⟨none, some 9, .p (.bin .lss (.s 8) (.s 7))⟩])] (.one .nil))
                (.seq
                  (.cond (.s 9)
                    .skip
                    (.exit 0))
                  (.seq
                    (.block 1
                      (.seq
                        (.ops [
                            (none, [⟨none, some 10, .p (.idx (.s 6) (.s 8) none 3)⟩,
                            ⟨none, some 11, .r (.ld (.s 10) (some 3))⟩,
                            ⟨none, some 5, .a (.alloc [.int .i64 0, .int .u32 0, .int .i64 0])⟩,
                            ⟨none, none, .e (.st (.s 5) (.s 11) 3)⟩])] (.one .nil))
                        (.ops [
                            (none, [⟨none, some 12, .p (.mv (.s 3))⟩,
                            ⟨none, some 13, .r (.ld (.s 5) (some 3))⟩,
                            ⟨none, some 14, .a (.bsl 1 3 [.int .i64 0, .int .u32 0, .int .i64 0] [(0, .s 13)])⟩,
                            ⟨none, some 15, .e (.app (.s 12) (.s 14) 3 24)⟩,
                            ⟨none, some 3, .p (.mv (.s 15))⟩])] (.one .nil))))
                    (.ops [
                        (none, [⟨none, some 16, .p (.bin .add (.s 8) (.c (.int .i64 1)))⟩,
                        ⟨none, some 8, .p (.mv (.s 16))⟩])] (.one .nil))))))))
        (.seq
          (.ops [
              (none, [⟨none, some 17, .p (.mv (.s 3))⟩,
              ⟨none, some 2, .p (.mv (.s 17))⟩])] (.one .nil))
          .ret))))
theorem cfn12 : cfn Try.prog 12 = some ⟨18, 5, d12.erase, [(.s 2, none)]⟩ := by kernel_rfl
theorem ok12 : d12.ok 18 5 = true := by kernel_rfl
noncomputable def F12 (a0 : Value) (H : Heap) (nx : Nat) (k : EP) : Prop :=
  wLen a0 0 H fun t7_1 =>
  wLoop (fun tih_2 tL_3 H1 nx1 =>
    wBin .lss (tL_3.getD 1 undef) t7_1 fun t9_4 =>
    wIf t9_4 (
      wIdx a0 (tL_3.getD 1 undef) none 3 fun t10_5 =>
      wLd t10_5 (some 3) H1 fun t11_6 =>
      wNew (.cells [.int .i64 0, .int .u32 0, .int .i64 0] 0) .ptr H1 nx1 fun t5_7 H2 nx2 =>
      wSt t5_7 t11_6 3 H2 fun H3 =>
      wLd t5_7 (some 3) H3 fun t13_8 =>
      dBsl 1 3 [.int .i64 0, .int .u32 0, .int .i64 0] [(0, t13_8)] fun tc_9 => wNew (.cells tc_9 0) (.slice 1 1) H3 nx2 fun t14_10 H4 nx4 =>
      wApp (tL_3.getD 0 undef) t14_10 3 24 H4 nx4 fun t15_11 H5 nx5 =>
      wBin .add (tL_3.getD 1 undef) (.int .i64 1) fun t16_12 =>
      tih_2 [t15_11, t16_12] H5 nx5) (
      forceV (tL_3.getD 0 undef) fun tv_13 => k tv_13 H1 nx1)) [(.slice none 0 0), (.int .i64 0)] H nx
theorem eq12 (a0 : Value) (H : Heap) (nx : Nat) (k : EP) : wBody Try.prog 18 5 d12 [(.s 2, none)] [a0] H nx k = F12 a0 H nx k := by kernel_rfl
theorem spec12 {a0 : Value} {H : Heap} {nx : Nat} {k : EP} (h : F12 a0 H nx k) : Ans Try.prog 12 [a0] H nx k :=
  spec_of_body mixed namesOK cfn12 ok12 (by simp) ((eq12 a0 H nx k).symm ▸ h)

/-! 3: ordinal/ordinallaw30.EliminationChecks -/
def d3 : D :=
  (.seq
    (.ops [
        (none, [⟨none, some 3, .a (.box (.s 0))⟩,
        ⟨none, some 6, .p (.mv (.c (.bool false)))⟩])] (.one .nil))
    (.seq
      (.join [17] [9, 10, 11, 12, 13, 14, 15, 16]
        (.ops [
            (none, [⟨none, some 9, .p (.fld (.s 3) 1)⟩,
            ⟨none, some 10, .r (.ld (.s 9) none)⟩,
            ⟨none, some 11, .r (.len (.s 10) 0)⟩,
            ⟨none, some 12, .p (.bin .gtr (.s 11) (.c (.int .i64 70)))⟩,
            ⟨none, some 13, .p (.mv (.s 12))⟩]),
            (some (13, false), [⟨none, some 14, .p (.mv (.s 2))⟩,
            ⟨none, some 15, .r (.len (.s 14) 0)⟩,
            ⟨none, some 16, .p (.bin .gtr (.s 15) (.c (.int .i64 40)))⟩]),
            (none, [⟨none, some 17, .p (.pick (.s 13) (.c (.bool true)) (.s 16))⟩])] (.one (.tst (.one .nil) (.one .nil))))
        (.cond (.s 17)
          (.seq
            (.ops [
                (none, [⟨none, some 18, .e (.call (.c (.func (.func 7) ⟨[]⟩ ⟨[]⟩)) [])⟩,
                ⟨none, some 6, .p (.mv (.s 18))⟩])] (.one .nil))
            .ret)
          .skip))
      (.seq
        (.ops [
            (none, [⟨none, some 19, .r (.ld (.s 3) (some 2))⟩,
            ⟨none, some 20, .p (.mv (.s 1))⟩,
            ⟨none, some 21, .p (.mv (.s 2))⟩,
            ⟨none, some 22, .e (.call (.c (.func (.func 8) ⟨[]⟩ ⟨[]⟩)) [.s 19, .s 20, .s 21])⟩,
            ⟨none, some 7, .p (.mv (.s 22))⟩])] (.one .nil))
        (.seq
          (.ops [
              (none, [⟨none, some 23, .r (.ld (.s 3) (some 2))⟩,
              ⟨none, some 24, .e (.call (.c (.func (.func 10) ⟨[]⟩ ⟨[]⟩)) [.s 23])⟩,
              ⟨none, some 25, .e (.call (.c (.func (.func 9) ⟨[]⟩ ⟨[]⟩)) [.s 24])⟩,
              ⟨none, some 8, .p (.mv (.s 25))⟩])] (.one .nil))
          (.join [8] [26, 27, 28, 29, 30, 31, 32, 33, 34, 35, 36, 37, 38, 39, 40, 41, 42, 43]
            (.block 0
              (.seq
                (.ops [
                    (none, [⟨none, some 33, .p (.mv (.s 8))⟩,
                    ⟨none, some 34, .p (.bin .neq (.s 33) (.c (.int .i64 0)))⟩,
                    ⟨none, some 32, .p (.mv (.s 34))⟩])] (.one .nil))
                (.cond (.s 32)
                  .skip
                  (.join [35] [36, 37, 38, 39, 40, 41, 42, 43]
                    (.ops [
                        (none, [⟨none, some 36, .p (.mv (.s 1))⟩,
                        ⟨none, some 37, .p (.bin .lss (.s 36) (.c (.int .i64 0)))⟩,
                        ⟨none, some 38, .p (.mv (.s 37))⟩]),
                        (some (38, false), [⟨none, some 39, .p (.mv (.s 1))⟩,
                        ⟨none, some 40, .p (.fld (.s 3) 0)⟩,
                        ⟨none, some 41, .r (.ld (.s 40) none)⟩,
                        ⟨none, some 42, .p (.bin .gtr (.s 39) (.s 41))⟩]),
                        (none, [⟨none, some 43, .p (.pick (.s 38) (.c (.bool true)) (.s 42))⟩,
                        ⟨none, some 35, .p (.mv (.s 43))⟩])] (.one (.tst (.one .nil) (.one .nil))))
                    (.cond (.s 35)
                      (.ops [
                          (none, [⟨none, some 8, .p (.mv (.c (.int .i64 3)))⟩])] (.one .nil))
                      (.ops [
                          (none, [⟨none, some 26, .r (.ld (.s 3) (some 2))⟩,
                          ⟨none, some 27, .e (.call (.c (.func (.func 10) ⟨[]⟩ ⟨[]⟩)) [.s 26])⟩,
                          ⟨none, some 28, .p (.mv (.s 1))⟩,
                          ⟨none, some 29, .p (.mv (.s 2))⟩,
                          ⟨none, some 30, .e (.call (.c (.func (.func 12) ⟨[]⟩ ⟨[]⟩)) [.s 29])⟩,
                          ⟨none, some 31, .e (.call (.c (.func (.func 11) ⟨[]⟩ ⟨[]⟩)) [.s 27, .s 28, .s 30])⟩,
                          ⟨none, some 8, .p (.mv (.s 31))⟩])] (.one .nil)))))))
            (.seq
              (.ops [
                  (none, [⟨none, some 44, .e (.call (.c (.func (.func 7) ⟨[]⟩ ⟨[]⟩)) [])⟩,
                  ⟨none, some 45, .p (.mv (.s 44))⟩]),
                  (some (45, true), [⟨none, some 46, .p (.mv (.s 7))⟩,
                  ⟨none, some 47, .p (.mv (.s 8))⟩,
                  ⟨none, some 48, .p (.bin .eql (.s 46) (.s 47))⟩]),
                  (none, [⟨none, some 49, .p (.pick (.s 45) (.s 48) (.c (.bool false)))⟩,
                  ⟨none, some 6, .p (.mv (.s 49))⟩])] (.one (.tst (.one .nil) (.one .nil))))
              .ret))))))
theorem cfn3 : cfn Try.prog 3 = some ⟨50, 6, d3.erase, [(.s 6, none)]⟩ := by kernel_rfl
theorem ok3 : d3.ok 50 6 = true := by kernel_rfl
noncomputable def F3 (a0 a1 a2 : Value) (H : Heap) (nx : Nat) (k : EP) : Prop :=
  dBox a0 fun tc_1 => wNew (.cells tc_1 0) .ptr H nx fun t3_2 H1 nx1 =>
  wJoin (fun tj_3 =>
    wFld t3_2 1 fun t9_5 =>
    wLd t9_5 none H1 fun t10_6 =>
    wLen t10_6 0 H1 fun t11_7 =>
    wBin .gtr t11_7 (.int .i64 70) fun t12_8 =>
    wGuard false t12_8 (
      wLen a2 0 H1 fun t15_9 =>
      wBin .gtr t15_9 (.int .i64 40) fun t16_10 =>
      tj_3 [t16_10] H1 nx1) (
      tj_3 [(.bool true)] H1 nx1)) (fun tL_4 H2 nx2 =>
    wIf (tL_4.getD 0 undef) (
      wCall Try.prog 7 [] H2 nx2 fun t18_11 H3 nx3 =>
      forceV t18_11 fun tv_12 => k tv_12 H3 nx3) (
      wLd t3_2 (some 2) H2 fun t19_13 =>
      wCall Try.prog 8 [t19_13, a1, a2] H2 nx2 fun t22_14 H4 nx4 =>
      wLd t3_2 (some 2) H4 fun t23_15 =>
      wCall Try.prog 10 [t23_15] H4 nx4 fun t24_16 H5 nx5 =>
      wCall Try.prog 9 [t24_16] H5 nx5 fun t25_17 H6 nx6 =>
      wJoin (fun tj_18 =>
        wBin .neq t25_17 (.int .i64 0) fun t34_20 =>
        wIf t34_20 (
          tj_18 [t25_17] H6 nx6) (
          wJoin (fun tj_21 =>
            wBin .lss a1 (.int .i64 0) fun t37_23 =>
            wGuard false t37_23 (
              wFld t3_2 0 fun t40_24 =>
              wLd t40_24 none H6 fun t41_25 =>
              wBin .gtr a1 t41_25 fun t42_26 =>
              tj_21 [t42_26] H6 nx6) (
              tj_21 [(.bool true)] H6 nx6)) (fun tL_22 H8 nx8 =>
            wIf (tL_22.getD 0 undef) (
              tj_18 [(.int .i64 3)] H8 nx8) (
              wLd t3_2 (some 2) H8 fun t26_27 =>
              wCall Try.prog 10 [t26_27] H8 nx8 fun t27_28 H9 nx9 =>
              wCall Try.prog 12 [a2] H9 nx9 fun t30_29 H10 nx10 =>
              wCall Try.prog 11 [t27_28, a1, t30_29] H10 nx10 fun t31_30 H11 nx11 =>
              tj_18 [t31_30] H11 nx11)))) (fun tL_19 H7 nx7 =>
        wCall Try.prog 7 [] H7 nx7 fun t44_31 H12 nx12 =>
        wGuard true t44_31 (
          wBin .eql t22_14 (tL_19.getD 0 undef) fun t48_32 =>
          forceV t48_32 fun tv_33 => k tv_33 H12 nx12) (
          forceV (.bool false) fun tv_34 => k tv_34 H12 nx12))))
theorem eq3 (a0 a1 a2 : Value) (H : Heap) (nx : Nat) (k : EP) : wBody Try.prog 50 6 d3 [(.s 6, none)] [a0, a1, a2] H nx k = F3 a0 a1 a2 H nx k := by kernel_rfl
theorem spec3 {a0 a1 a2 : Value} {H : Heap} {nx : Nat} {k : EP} (h : F3 a0 a1 a2 H nx k) : Ans Try.prog 3 [a0, a1, a2] H nx k :=
  spec_of_body mixed namesOK cfn3 ok3 (by simp) ((eq3 a0 a1 a2 H nx k).symm ▸ h)

end Go.Proofs.Ytaieijjfabbfeaa
