/-
  'awake' of this seat returns true, whatever the world: one run of the closed executor.
  MADE BY PROGRAM (wip/gen/gen.py): functions 27 49 52 29 31 37 28 20 8 9 10 30 32 11 12 3 as marked code, and their claims written out.
  Plain facts on sets of vertices as numbers.
  Contracts: below, Has, Contains, the two Checks of a graph.
  Contracts: the two Checks of a graph.
  Contracts: one bag.
  The executor as a claim: closed runs as claims; the way in, from arguments that stand in the world.
  Contracts: one bag, the reference's; Set; the conversions.
  Contracts: the bags in the form of the reference; plain facts on lists of bags.
  Contract: elimination.Check.
-/
import Derived.Test.YtaieijjfabbfeaaF2
import Derived.Test.YtaieijjfabbfeaaProg
import Derived.KernelRfl
import Derived.Test.YtaieijjfabbfeaaF3
import GoSem.Claim
import Derived.Laws.BitsAllLaws
import Derived.Carry
import Derived.ChangeArms
import Derived.DataReads
import Derived.Below
set_option linter.unusedSimpArgs false
set_option linter.unusedVariables false
set_option linter.unusedSectionVars false
namespace Go.Proofs.Ytaieijjfabbfeaa
open Go.Clo

theorem mixed : Try.prog.follows .mixedOrders = true := by kernel_rfl
theorem names_all : (Try.prog.funcs.toList.all fun fn => !(fn.name == "runtime.NumGoroutine")) = true := by kernel_rfl
theorem namesOK : NamesOK Try.prog := by
  intro f fn hf
  have h := List.all_eq_true.mp names_all fn (by
    have : Try.prog.funcs.toList[f]? = some fn := by simpa using hf
    exact List.mem_of_getElem? this)
  simpa using h
set_option maxRecDepth 1000000 in
theorem awake_run : runA Try.prog noOrc 100 7 [] = some (.bool true) := by kernel_rfl
theorem awake_calls (w : World) : Calls Try.prog 7 #[] w fun e w' => e = .returned (.bool true) ∧ RowKit.Below w.heap.size w w' :=
  run_calls mixed namesOK (noOrc_ok _) awake_run rfl rfl w
end Go.Proofs.Ytaieijjfabbfeaa

set_option linter.unusedSimpArgs false
set_option linter.unusedVariables false
set_option linter.unusedSectionVars false
namespace Go.Proofs.Ytaieijjfabbfeaa
open Go.Clo
set_option maxRecDepth 100000
/-! 27: ordinal/elimination.checkFree -/
def d27 : D :=
  (.seq
    (.ops [
        (none, [⟨none, some 2, .a (.box (.s 0))⟩,
        ⟨none, some 4, .p (.mv (.c (.int .i64 0)))⟩])] (.one .nil))
    (.seq
      (.seq
        (.ops [
            (none, [⟨none, some 6, .r (.ld (.s 2) (some 2))⟩,
            ⟨none, some 7, .e (.call (.c (.func (.func 37) ⟨[]⟩ ⟨[]⟩)) [.s 6])⟩,
            ⟨none, some 5, .p (.mv (.s 7))⟩])] (.one .nil))
        (.seq
          (.ops [
              (none, [⟨none, some 8, .p (.mv (.s 5))⟩,
              ⟨none, some 9, .p (.bin .neq (.s 8) (.c (.int .i64 0)))⟩])] (.one .nil))
          (.cond (.s 9)
            (.seq
              (.ops [
                  (none, [⟨none, some 10, .p (.mv (.s 5))⟩,
                  ⟨none, some 4, .p (.mv (.s 10))⟩])] (.one .nil))
              .ret)
            .skip)))
      (.seq
        (.join [18] [11, 12, 13, 14, 15, 16, 17]
          (.ops [
              (none, [⟨none, some 11, .p (.mv (.s 1))⟩,
              ⟨none, some 12, .p (.bin .lss (.s 11) (.c (.int .i64 0)))⟩,
              ⟨none, some 13, .p (.mv (.s 12))⟩]),
              (some (13, false), [⟨none, some 14, .p (.mv (.s 1))⟩,
              ⟨none, some 15, .p (.fld (.s 2) 0)⟩,
              ⟨none, some 16, .r (.ld (.s 15) none)⟩,
              ⟨none, some 17, .p (.bin .gtr (.s 14) (.s 16))⟩]),
              (none, [⟨none, some 18, .p (.pick (.s 13) (.c (.bool true)) (.s 17))⟩])] (.one (.tst (.one .nil) (.one .nil))))
          (.cond (.s 18)
            (.seq
              (.ops [
                  (none, [⟨none, some 4, .p (.mv (.c (.int .i64 3)))⟩])] (.one .nil))
              .ret)
            .skip))
        (.seq
          (.ops [
              (none, [⟨none, some 4, .p (.mv (.c (.int .i64 0)))⟩])] (.one .nil))
          .ret))))
theorem cfn27 : cfn Try.prog 27 = some ⟨19, 5, d27.erase, [(.s 4, none)]⟩ := by kernel_rfl
theorem ok27 : d27.ok 19 5 = true := by kernel_rfl
noncomputable def F27 (a0 a1 : Value) (H : Heap) (nx : Nat) (k : EP) : Prop :=
  dBox a0 fun tc_1 => wNew (.cells tc_1 0) .ptr H nx fun t2_2 H1 nx1 =>
  wLd t2_2 (some 2) H1 fun t6_3 =>
  wCall Try.prog 37 [t6_3] H1 nx1 fun t7_4 H2 nx2 =>
  wBin .neq t7_4 (.int .i64 0) fun t9_5 =>
  wIf t9_5 (
    forceV t7_4 fun tv_6 => k tv_6 H2 nx2) (
    wJoin (fun tj_7 =>
      wBin .lss a1 (.int .i64 0) fun t12_9 =>
      wGuard false t12_9 (
        wFld t2_2 0 fun t15_10 =>
        wLd t15_10 none H2 fun t16_11 =>
        wBin .gtr a1 t16_11 fun t17_12 =>
        tj_7 [t17_12] H2 nx2) (
        tj_7 [(.bool true)] H2 nx2)) (fun tL_8 H3 nx3 =>
      wIf (tL_8.getD 0 undef) (
        forceV (.int .i64 3) fun tv_13 => k tv_13 H3 nx3) (
        forceV (.int .i64 0) fun tv_14 => k tv_14 H3 nx3)))
theorem eq27 (a0 a1 : Value) (H : Heap) (nx : Nat) (k : EP) : wBody Try.prog 19 5 d27 [(.s 4, none)] [a0, a1] H nx k = F27 a0 a1 H nx k := by kernel_rfl
theorem spec27 {a0 a1 : Value} {H : Heap} {nx : Nat} {k : EP} (h : F27 a0 a1 H nx k) : Ans Try.prog 27 [a0, a1] H nx k :=
  spec_of_body mixed namesOK cfn27 ok27 (by simp) ((eq27 a0 a1 H nx k).symm ▸ h)

/-! 49: ordinal/elimination.below -/
def d49 : D :=
  (.seq
    (.ops [
        (none, [⟨none, some 2, .p (.mv (.c (.int .u32 0)))⟩])] (.one .nil))
    (.seq
      (.ops [
          (none, [⟨none, some 3, .p (.mv (.s 0))⟩,
          ⟨none, some 4, .p (.bin .shl (.c (.int .u64 1)) (.s 3))⟩,
          ⟨none, some 5, .p (.bin .sub (.s 4) (.c (.int .u64 1)))⟩,
          ⟨none, some 6, .r (.convI .u32 (.s 5))⟩,
          ⟨none, some 2, .p (.mv (.s 6))⟩])] (.one .nil))
      .ret))
theorem cfn49 : cfn Try.prog 49 = some ⟨7, 3, d49.erase, [(.s 2, none)]⟩ := by kernel_rfl
theorem ok49 : d49.ok 7 3 = true := by kernel_rfl
noncomputable def F49 (a0 : Value) (H : Heap) (nx : Nat) (k : EP) : Prop :=
  wBin .shl (.int .u64 1) a0 fun t4_1 =>
  wBin .sub t4_1 (.int .u64 1) fun t5_2 =>
  wConv .u32 t5_2 fun t6_3 =>
  forceV t6_3 fun tv_4 => k tv_4 H nx
theorem eq49 (a0 : Value) (H : Heap) (nx : Nat) (k : EP) : wBody Try.prog 7 3 d49 [(.s 2, none)] [a0] H nx k = F49 a0 H nx k := by kernel_rfl
theorem spec49 {a0 : Value} {H : Heap} {nx : Nat} {k : EP} (h : F49 a0 H nx k) : Ans Try.prog 49 [a0] H nx k :=
  spec_of_body mixed namesOK cfn49 ok49 (by simp) ((eq49 a0 H nx k).symm ▸ h)

/-! 52: ordinal/hypergraph.below -/
def d52 : D :=
  (.seq
    (.ops [
        (none, [⟨none, some 2, .p (.mv (.c (.int .u32 0)))⟩])] (.one .nil))
    (.seq
      (.ops [
          (none, [⟨none, some 3, .p (.mv (.s 0))⟩,
          ⟨none, some 4, .p (.bin .shl (.c (.int .u64 1)) (.s 3))⟩,
          ⟨none, some 5, .p (.bin .sub (.s 4) (.c (.int .u64 1)))⟩,
          ⟨none, some 6, .r (.convI .u32 (.s 5))⟩,
          ⟨none, some 2, .p (.mv (.s 6))⟩])] (.one .nil))
      .ret))
theorem cfn52 : cfn Try.prog 52 = some ⟨7, 3, d52.erase, [(.s 2, none)]⟩ := by kernel_rfl
theorem ok52 : d52.ok 7 3 = true := by kernel_rfl
noncomputable def F52 (a0 : Value) (H : Heap) (nx : Nat) (k : EP) : Prop :=
  wBin .shl (.int .u64 1) a0 fun t4_1 =>
  wBin .sub t4_1 (.int .u64 1) fun t5_2 =>
  wConv .u32 t5_2 fun t6_3 =>
  forceV t6_3 fun tv_4 => k tv_4 H nx
theorem eq52 (a0 : Value) (H : Heap) (nx : Nat) (k : EP) : wBody Try.prog 7 3 d52 [(.s 2, none)] [a0] H nx k = F52 a0 H nx k := by kernel_rfl
theorem spec52 {a0 : Value} {H : Heap} {nx : Nat} {k : EP} (h : F52 a0 H nx k) : Ans Try.prog 52 [a0] H nx k :=
  spec_of_body mixed namesOK cfn52 ok52 (by simp) ((eq52 a0 H nx k).symm ▸ h)

/-! 29: ordinal/ordinalref26.Has -/
def d29 : D :=
  (.seq
    (.ops [
        (none, [⟨none, some 4, .p (.mv (.c (.bool false)))⟩])] (.one .nil))
    (.seq
      (.ops [
          (none, [⟨none, some 5, .p (.mv (.s 0))⟩,
          ⟨none, some 6, .p (.mv (.s 1))⟩,
          ⟨none, some 7, .p (.bin .shr (.s 5) (.s 6))⟩,
          ⟨none, some 8, .p (.bin .rem (.s 7) (.c (.int .u32 2)))⟩,
          ⟨none, some 9, .p (.bin .eql (.s 8) (.c (.int .u32 1)))⟩,
          ⟨none, some 4, .p (.mv (.s 9))⟩])] (.one .nil))
      .ret))
theorem cfn29 : cfn Try.prog 29 = some ⟨10, 4, d29.erase, [(.s 4, none)]⟩ := by kernel_rfl
theorem ok29 : d29.ok 10 4 = true := by kernel_rfl
noncomputable def F29 (a0 a1 : Value) (H : Heap) (nx : Nat) (k : EP) : Prop :=
  wBin .shr a0 a1 fun t7_1 =>
  wBin .rem t7_1 (.int .u32 2) fun t8_2 =>
  wBin .eql t8_2 (.int .u32 1) fun t9_3 =>
  forceV t9_3 fun tv_4 => k tv_4 H nx
theorem eq29 (a0 a1 : Value) (H : Heap) (nx : Nat) (k : EP) : wBody Try.prog 10 4 d29 [(.s 4, none)] [a0, a1] H nx k = F29 a0 a1 H nx k := by kernel_rfl
theorem spec29 {a0 a1 : Value} {H : Heap} {nx : Nat} {k : EP} (h : F29 a0 a1 H nx k) : Ans Try.prog 29 [a0, a1] H nx k :=
  spec_of_body mixed namesOK cfn29 ok29 (by simp) ((eq29 a0 a1 H nx k).symm ▸ h)

/-! 31: ordinal/ordinalref26.Contains -/
def d31 : D :=
  (.seq
    (.ops [
        (none, [⟨none, some 4, .p (.mv (.c (.bool false)))⟩])] (.one .nil))
    (.seq
      (.seq
        (.ops [
            (none, [⟨none, some 5, .p (.mv (.c (.int .i64 0)))⟩])] (.one .nil))
        (.block 0
          (.loop [5] [4, 6, 7, 8, 9, 10, 11, 12, 13, 14, 15, 16, 17, 18]
            (.seq
              (.seq
                (.ops [
                    (none, [⟨none, some 6, .p (.mv (.s 5))⟩,
                    ⟨none, some 7, .p (.bin .lss (.s 6) (.c (.int .i64 32)))⟩])] (.one .nil))
                (.cond (.s 7)
                  .skip
                  (.exit 0)))
              (.seq
                (.block 1
                  (.join [18] [10, 11, 12, 13, 14, 15, 16, 17]
                    (.ops [
                        (none, [⟨none, some 10, .p (.mv (.s 1))⟩,
                        ⟨none, some 11, .p (.mv (.s 5))⟩,
                        ⟨none, some 12, .e (.call (.c (.func (.func 29) ⟨[]⟩ ⟨[]⟩)) [.s 10, .s 11])⟩,
                        ⟨none, some 13, .p (.mv (.s 12))⟩]),
                        (some (13, true), [⟨none, some 14, .p (.mv (.s 0))⟩,
                        ⟨none, some 15, .p (.mv (.s 5))⟩,
                        ⟨none, some 16, .e (.call (.c (.func (.func 29) ⟨[]⟩ ⟨[]⟩)) [.s 14, .s 15])⟩,
                        ⟨none, some 17, .p (.un .not (.s 16))⟩]),
                        (none, [⟨none, some 18, .p (.pick (.s 13) (.s 17) (.c (.bool false)))⟩])] (.one (.tst (.one .nil) (.one .nil))))
                    (.cond (.s 18)
                      (.seq
                        (.ops [
                            (none, [⟨none, some 4, .p (.mv (.c (.bool false)))⟩])] (.one .nil))
                        .ret)
                      .skip)))
                (.ops [
                    (none, [⟨none, some 8, .p (.mv (.s 5))⟩,
                    ⟨none, some 9, .p (.bin .add (.s 8) (.c (.int .i64 1)))⟩,
                    ⟨none, some 5, .p (.mv (.s 9))⟩])] (.one .nil)))))))
      (.seq
        (.ops [
            (none, [⟨none, some 4, .p (.mv (.c (.bool true)))⟩])] (.one .nil))
        .ret)))
theorem cfn31 : cfn Try.prog 31 = some ⟨19, 5, d31.erase, [(.s 4, none)]⟩ := by kernel_rfl
theorem ok31 : d31.ok 19 5 = true := by kernel_rfl
noncomputable def F31 (a0 a1 : Value) (H : Heap) (nx : Nat) (k : EP) : Prop :=
  wLoop (fun tih_1 tL_2 H1 nx1 =>
    wBin .lss (tL_2.getD 0 undef) (.int .i64 32) fun t7_3 =>
    wIf t7_3 (
      wJoin (fun tj_4 =>
        wCall Try.prog 29 [a1, (tL_2.getD 0 undef)] H1 nx1 fun t12_6 H3 nx3 =>
        wGuard true t12_6 (
          wCall Try.prog 29 [a0, (tL_2.getD 0 undef)] H3 nx3 fun t16_7 H4 nx4 =>
          wUn .not t16_7 fun t17_8 =>
          tj_4 [t17_8] H4 nx4) (
          tj_4 [(.bool false)] H3 nx3)) (fun tL_5 H2 nx2 =>
        wIf (tL_5.getD 0 undef) (
          forceV (.bool false) fun tv_9 => k tv_9 H2 nx2) (
          wBin .add (tL_2.getD 0 undef) (.int .i64 1) fun t9_10 =>
          tih_1 [t9_10] H2 nx2))) (
      forceV (.bool true) fun tv_11 => k tv_11 H1 nx1)) [(.int .i64 0)] H nx
theorem eq31 (a0 a1 : Value) (H : Heap) (nx : Nat) (k : EP) : wBody Try.prog 19 5 d31 [(.s 4, none)] [a0, a1] H nx k = F31 a0 a1 H nx k := by kernel_rfl
theorem spec31 {a0 a1 : Value} {H : Heap} {nx : Nat} {k : EP} (h : F31 a0 a1 H nx k) : Ans Try.prog 31 [a0, a1] H nx k :=
  spec_of_body mixed namesOK cfn31 ok31 (by simp) ((eq31 a0 a1 H nx k).symm ▸ h)

/-! 37: ordinal/hypergraph.Check -/
def d37 : D :=
  (.seq
    (.ops [
        (none, [⟨none, some 1, .a (.box (.s 0))⟩,
        ⟨none, some 2, .p (.mv (.c (.int .i64 0)))⟩])] (.one .nil))
    (.seq
      (.join [12] [5, 6, 7, 8, 9, 10, 11]
        (.ops [
            (none, [⟨none, some 5, .p (.fld (.s 1) 0)⟩,
            ⟨none, some 6, .r (.ld (.s 5) none)⟩,
            ⟨none, some 7, .p (.bin .lss (.s 6) (.c (.int .i64 0)))⟩,
            ⟨none, some 8, .p (.mv (.s 7))⟩]),
            (some (8, false), [⟨none, some 9, .p (.fld (.s 1) 0)⟩,
            ⟨none, some 10, .r (.ld (.s 9) none)⟩,
            ⟨none, some 11, .p (.bin .gtr (.s 10) (.c (.int .i64 32)))⟩]),
            (none, [⟨none, some 12, .p (.pick (.s 8) (.c (.bool true)) (.s 11))⟩])] (.one (.tst (.one .nil) (.one .nil))))
        (.cond (.s 12)
          (.seq
            (.ops [
                (none, [⟨none, some 2, .p (.mv (.c (.int .i64 3)))⟩])] (.one .nil))
            .ret)
          .skip))
      (.seq
        (.seq
          (.ops [
              (none, [⟨none, some 13, .p (.fld (.s 1) 1)⟩,
              ⟨none, some 14, .r (.ld (.s 13) none)⟩,
              ⟨none, some 15, .r (.len (.s 14) 0)⟩,
              ⟨none, some 16, .p (.bin .gtr (.s 15) (.c (.int .i64 64)))⟩])] (.one .nil))
          (.cond (.s 16)
            (.seq
              (.ops [
                  (none, [⟨none, some 2, .p (.mv (.c (.int .i64 12)))⟩])] (.one .nil))
              .ret)
            .skip))
        (.seq
          (.seq
            (.ops [
                (none, [⟨none, some 17, .p (.fld (.s 1) 1)⟩,
                ⟨none, some 18, .r (.ld (.s 17) none)⟩,
                ⟨none, some 19, .r (.len (.s 18) 0)⟩,
                ⟨none, some 20, .p (.mv (.c (.int .i64 0)))⟩])] (.one .nil))
            (.block 0
              (.loop [20] [2, 4, 21, 22, 23, 24, 25, 26, 27, 28, 29, 30]
                (.seq
                  (.ops [
                      (none, [⟨none, some 21, .p (.bin .lss (.s 20) (.s 19))⟩])] (.one .nil))
                  (.seq
                    (.cond (.s 21)
                      .skip
                      (.exit 0))
                    (.seq
                      (.block 1
                        (.seq
                          (.ops [
                              (none, [⟨none, some 22, .p (.idx (.s 18) (.s 20) none 1)⟩,
                              ⟨none, some 23, .r (.ld (.s 22) none)⟩,
                              ⟨none, some 4, .p (.mv (.s 23))⟩])] (.one .nil))
                          (.seq
                            (.ops [
                                (none, [⟨none, some 24, .p (.mv (.s 4))⟩,
                                ⟨none, some 25, .p (.fld (.s 1) 0)⟩,
                                ⟨none, some 26, .r (.ld (.s 25) none)⟩,
                                ⟨none, some 27, .e (.call (.c (.func (.func 52) ⟨[]⟩ ⟨[]⟩)) [.s 26])⟩,
                                ⟨none, some 28, .p (.bin .andNot (.s 24) (.s 27))⟩,
                                ⟨none, some 29, .p (.bin .neq (.s 28) (.c (.int .u32 0)))⟩])] (.one .nil))
                            (.cond (.s 29)
                              (.seq
                                (.ops [
                                    (none, [⟨none, some 2, .p (.mv (.c (.int .i64 1)))⟩])] (.one .nil))
                                .ret)
                              .skip))))
                      (.ops [
                          (none, [⟨none, some 30, .p (.bin .add (.s 20) (.c (.int .i64 1)))⟩,
                          ⟨none, some 20, .p (.mv (.s 30))⟩])] (.one .nil))))))))
          (.seq
            (.ops [
                (none, [⟨none, some 2, .p (.mv (.c (.int .i64 0)))⟩])] (.one .nil))
            .ret)))))
theorem cfn37 : cfn Try.prog 37 = some ⟨31, 5, d37.erase, [(.s 2, none)]⟩ := by kernel_rfl
theorem ok37 : d37.ok 31 5 = true := by kernel_rfl
noncomputable def F37 (a0 : Value) (H : Heap) (nx : Nat) (k : EP) : Prop :=
  dBox a0 fun tc_1 => wNew (.cells tc_1 0) .ptr H nx fun t1_2 H1 nx1 =>
  wJoin (fun tj_3 =>
    wFld t1_2 0 fun t5_5 =>
    wLd t5_5 none H1 fun t6_6 =>
    wBin .lss t6_6 (.int .i64 0) fun t7_7 =>
    wGuard false t7_7 (
      wFld t1_2 0 fun t9_8 =>
      wLd t9_8 none H1 fun t10_9 =>
      wBin .gtr t10_9 (.int .i64 32) fun t11_10 =>
      tj_3 [t11_10] H1 nx1) (
      tj_3 [(.bool true)] H1 nx1)) (fun tL_4 H2 nx2 =>
    wIf (tL_4.getD 0 undef) (
      forceV (.int .i64 3) fun tv_11 => k tv_11 H2 nx2) (
      wFld t1_2 1 fun t13_12 =>
      wLd t13_12 none H2 fun t14_13 =>
      wLen t14_13 0 H2 fun t15_14 =>
      wBin .gtr t15_14 (.int .i64 64) fun t16_15 =>
      wIf t16_15 (
        forceV (.int .i64 12) fun tv_16 => k tv_16 H2 nx2) (
        wFld t1_2 1 fun t17_17 =>
        wLd t17_17 none H2 fun t18_18 =>
        wLen t18_18 0 H2 fun t19_19 =>
        wLoop (fun tih_20 tL_21 H3 nx3 =>
          wBin .lss (tL_21.getD 0 undef) t19_19 fun t21_22 =>
          wIf t21_22 (
            wIdx t18_18 (tL_21.getD 0 undef) none 1 fun t22_23 =>
            wLd t22_23 none H3 fun t23_24 =>
            wFld t1_2 0 fun t25_25 =>
            wLd t25_25 none H3 fun t26_26 =>
            wCall Try.prog 52 [t26_26] H3 nx3 fun t27_27 H4 nx4 =>
            wBin .andNot t23_24 t27_27 fun t28_28 =>
            wBin .neq t28_28 (.int .u32 0) fun t29_29 =>
            wIf t29_29 (
              forceV (.int .i64 1) fun tv_30 => k tv_30 H4 nx4) (
              wBin .add (tL_21.getD 0 undef) (.int .i64 1) fun t30_31 =>
              tih_20 [t30_31] H4 nx4)) (
            forceV (.int .i64 0) fun tv_32 => k tv_32 H3 nx3)) [(.int .i64 0)] H2 nx2)))
theorem eq37 (a0 : Value) (H : Heap) (nx : Nat) (k : EP) : wBody Try.prog 31 5 d37 [(.s 2, none)] [a0] H nx k = F37 a0 H nx k := by kernel_rfl
theorem spec37 {a0 : Value} {H : Heap} {nx : Nat} {k : EP} (h : F37 a0 H nx k) : Ans Try.prog 37 [a0] H nx k :=
  spec_of_body mixed namesOK cfn37 ok37 (by simp) ((eq37 a0 H nx k).symm ▸ h)

/-! 28: ordinal/elimination.checkBag -/
def d28 : D :=
  (.seq
    (.ops [
        (none, [⟨none, some 7, .a (.box (.s 3))⟩,
        ⟨none, some 8, .p (.mv (.c (.int .i64 0)))⟩])] (.one .nil))
    (.seq
      (.block 0
        (.join [9] [10, 11, 12, 13, 14, 15, 16, 17, 18, 19, 20, 21, 22, 23, 24, 25, 26, 27, 28, 29]
          (.draw [0, 1, 0, 7, 15, 31, 63, 31, 255, 511, 1023, 2047, 4095, 8191, 16383, 8191, 40959, 131071, 262143, 524287, 1048575] [
              (none, [⟨none, some 10, .p (.fld (.s 7) 0)⟩,
              ⟨none, some 11, .r (.ld (.s 10) none)⟩,
              ⟨none, some 12, .p (.mv (.s 2))⟩,
              ⟨none, some 13, .p (.bin .neq (.s 11) (.s 12))⟩,
              ⟨none, some 14, .p (.mv (.s 13))⟩]),
              (some (14, false), [⟨none, some 15, .p (.fld (.s 7) 1)⟩,
              ⟨none, some 16, .r (.ld (.s 15) none)⟩,
              ⟨none, some 17, .p (.mv (.s 2))⟩,
              ⟨none, some 18, .p (.bin .shr (.s 16) (.s 17))⟩,
              ⟨none, some 19, .p (.bin .and (.s 18) (.c (.int .u32 1)))⟩,
              ⟨none, some 20, .p (.bin .eql (.s 19) (.c (.int .u32 1)))⟩]),
              (none, [⟨none, some 21, .p (.pick (.s 14) (.c (.bool true)) (.s 20))⟩,
              ⟨none, some 22, .p (.mv (.s 21))⟩]),
              (some (22, false), [⟨none, some 23, .p (.fld (.s 7) 1)⟩,
              ⟨none, some 24, .r (.ld (.s 23) none)⟩,
              ⟨none, some 25, .p (.mv (.s 0))⟩,
              ⟨none, some 26, .e (.call (.c (.func (.func 49) ⟨[]⟩ ⟨[]⟩)) [.s 25])⟩,
              ⟨none, some 27, .p (.bin .andNot (.s 24) (.s 26))⟩,
              ⟨none, some 28, .p (.bin .neq (.s 27) (.c (.int .u32 0)))⟩]),
              (none, [⟨none, some 29, .p (.pick (.s 22) (.c (.bool true)) (.s 28))⟩,
              ⟨none, some 9, .p (.mv (.s 29))⟩])] (.one (.tst (.one (.tst (.one .nil) (.one .nil))) (.one (.one (.one .nil))))))
          (.cond (.s 9)
            (.seq
              (.ops [
                  (none, [⟨none, some 8, .p (.mv (.c (.int .i64 1)))⟩])] (.one .nil))
              .ret)
            (.join [30] [31, 32, 33, 34, 35, 36, 37, 38, 39, 40, 41]
              (.draw [0, 0, 3, 7, 15, 31, 15, 79, 255, 511, 1023, 2047] [
                  (none, [⟨none, some 31, .p (.mv (.s 2))⟩,
                  ⟨none, some 32, .p (.mv (.s 1))⟩,
                  ⟨none, some 33, .p (.bin .lss (.s 31) (.s 32))⟩,
                  ⟨none, some 34, .p (.mv (.s 33))⟩]),
                  (some (34, true), [⟨none, some 35, .p (.fld (.s 7) 1)⟩,
                  ⟨none, some 36, .r (.ld (.s 35) none)⟩,
                  ⟨none, some 37, .p (.mv (.s 2))⟩,
                  ⟨none, some 38, .e (.call (.c (.func (.func 49) ⟨[]⟩ ⟨[]⟩)) [.s 37])⟩,
                  ⟨none, some 39, .p (.bin .andNot (.s 36) (.s 38))⟩,
                  ⟨none, some 40, .p (.bin .neq (.s 39) (.c (.int .u32 0)))⟩]),
                  (none, [⟨none, some 41, .p (.pick (.s 34) (.s 40) (.c (.bool false)))⟩,
                  ⟨none, some 30, .p (.mv (.s 41))⟩])] (.one (.tst (.one .nil) (.one .nil))))
              (.cond (.s 30)
                (.seq
                  (.ops [
                      (none, [⟨none, some 8, .p (.mv (.c (.int .i64 16)))⟩])] (.one .nil))
                  .ret)
                (.join [42] [43, 44, 45, 46, 47, 48, 49, 50]
                  (.ops [
                      (none, [⟨none, some 43, .p (.fld (.s 7) 1)⟩,
                      ⟨none, some 44, .r (.ld (.s 43) none)⟩,
                      ⟨none, some 45, .p (.bin .eql (.s 44) (.c (.int .u32 0)))⟩,
                      ⟨none, some 46, .p (.mv (.s 45))⟩]),
                      (some (46, true), [⟨none, some 47, .p (.fld (.s 7) 2)⟩,
                      ⟨none, some 48, .r (.ld (.s 47) none)⟩,
                      ⟨none, some 49, .p (.bin .neq (.s 48) (.c (.int .i64 (-1))))⟩]),
                      (none, [⟨none, some 50, .p (.pick (.s 46) (.s 49) (.c (.bool false)))⟩,
                      ⟨none, some 42, .p (.mv (.s 50))⟩])] (.one (.tst (.one .nil) (.one .nil))))
                  (.cond (.s 42)
                    (.seq
                      (.ops [
                          (none, [⟨none, some 8, .p (.mv (.c (.int .i64 28)))⟩])] (.one .nil))
                      .ret)
                    (.join [51] [52, 53, 54, 55, 56, 57, 58, 59, 60, 61, 62, 63, 64, 65, 66, 67, 68, 69, 70, 71, 72, 73, 74]
                      (.ops [
                          (none, [⟨none, some 52, .p (.fld (.s 7) 1)⟩,
                          ⟨none, some 53, .r (.ld (.s 52) none)⟩,
                          ⟨none, some 54, .p (.bin .neq (.s 53) (.c (.int .u32 0)))⟩,
                          ⟨none, some 55, .p (.mv (.s 54))⟩]),
                          (some (55, true), [⟨none, some 56, .p (.fld (.s 7) 2)⟩,
                          ⟨none, some 57, .r (.ld (.s 56) none)⟩,
                          ⟨none, some 58, .p (.bin .lss (.s 57) (.c (.int .i64 0)))⟩,
                          ⟨none, some 59, .p (.mv (.s 58))⟩]),
                          (some (59, false), [⟨none, some 60, .p (.fld (.s 7) 2)⟩,
                          ⟨none, some 61, .r (.ld (.s 60) none)⟩,
                          ⟨none, some 62, .p (.mv (.s 0))⟩,
                          ⟨none, some 63, .p (.bin .geq (.s 61) (.s 62))⟩]),
                          (some (55, true), [⟨none, some 64, .p (.pick (.s 59) (.c (.bool true)) (.s 63))⟩,
                          ⟨none, some 65, .p (.mv (.s 64))⟩]),
                          (some (65, false), [⟨none, some 66, .p (.fld (.s 7) 1)⟩,
                          ⟨none, some 67, .r (.ld (.s 66) none)⟩,
                          ⟨none, some 68, .p (.fld (.s 7) 2)⟩,
                          ⟨none, some 69, .r (.ld (.s 68) none)⟩,
                          ⟨none, some 70, .p (.bin .shr (.s 67) (.s 69))⟩,
                          ⟨none, some 71, .p (.bin .and (.s 70) (.c (.int .u32 1)))⟩,
                          ⟨none, some 72, .p (.bin .eql (.s 71) (.c (.int .u32 0)))⟩]),
                          (some (55, true), [⟨none, some 73, .p (.pick (.s 65) (.c (.bool true)) (.s 72))⟩]),
                          (none, [⟨none, some 74, .p (.pick (.s 55) (.s 73) (.c (.bool false)))⟩,
                          ⟨none, some 51, .p (.mv (.s 74))⟩])] (.one (.tst (.tst (.one (.tst (.one (.one .nil)) (.one (.one .nil)))) (.one (.one (.one (.one .nil))))) (.one (.one (.one (.one (.one .nil))))))))
                      (.cond (.s 51)
                        (.seq
                          (.ops [
                              (none, [⟨none, some 8, .p (.mv (.c (.int .i64 28)))⟩])] (.one .nil))
                          .ret)
                        .skip)))))))))
      (.seq
        (.ops [
            (none, [⟨none, some 8, .p (.mv (.c (.int .i64 0)))⟩])] (.one .nil))
        .ret)))
theorem cfn28 : cfn Try.prog 28 = some ⟨75, 7, d28.erase, [(.s 8, none)]⟩ := by kernel_rfl
theorem ok28 : d28.ok 75 7 = true := by kernel_rfl
noncomputable def F28 (a0 a1 a2 a3 : Value) (H : Heap) (nx : Nat) (k : EP) : Prop :=
  dBox a3 fun tc_1 => wNew (.cells tc_1 0) .ptr H nx fun t7_2 H1 nx1 =>
  wJoin (fun tj_3 =>
    forceN (nx1 + 21) fun nx3 =>
    wFld t7_2 0 fun t10_5 =>
    wLd t10_5 none H1 fun t11_6 =>
    wBin .neq t11_6 a2 fun t13_7 =>
    wGuard false t13_7 (
      wFld t7_2 1 fun t15_8 =>
      wLd t15_8 none H1 fun t16_9 =>
      wBin .shr t16_9 a2 fun t18_10 =>
      wBin .and t18_10 (.int .u32 1) fun t19_11 =>
      wBin .eql t19_11 (.int .u32 1) fun t20_12 =>
      wGuard false t20_12 (
        wFld t7_2 1 fun t23_13 =>
        wLd t23_13 none H1 fun t24_14 =>
        wCall Try.prog 49 [a0] H1 nx3 fun t26_15 H4 nx4 =>
        wBin .andNot t24_14 t26_15 fun t27_16 =>
        wBin .neq t27_16 (.int .u32 0) fun t28_17 =>
        (((((wLd t23_13 none H4 fun tq_20 => tq_20 = t24_14) ∧ ((wLd t23_13 none H1 fun tq_21 => tq_21 = t24_14) ∧ True)) ∧ (((True) ∧ ((wLd t15_8 none H1 fun tq_19 => tq_19 = t16_9) ∧ True)) ∧ (((True) ∧ ((wLd t10_5 none H1 fun tq_18 => tq_18 = t11_6) ∧ True)) ∧ True)))) ∧ (
          tj_3 [t28_17] H4 nx4)) ∨ False) (
        (((((wLd t15_8 none H1 fun tq_23 => tq_23 = t16_9) ∧ True) ∧ (((wLd t10_5 none H1 fun tq_22 => tq_22 = t11_6) ∧ True) ∧ True))) ∧ (
          tj_3 [(.bool true)] H1 nx3)) ∨ False)) (
        (((((wLd t10_5 none H1 fun tq_24 => tq_24 = t11_6) ∧ True) ∧ True)) ∧ (
          tj_3 [(.bool true)] H1 nx3)) ∨ False)) (fun tL_4 H2 nx2 =>
    wIf (tL_4.getD 0 undef) (
      forceV (.int .i64 1) fun tv_25 => k tv_25 H2 nx2) (
      wJoin (fun tj_26 =>
        forceN (nx2 + 12) fun nx6 =>
        wBin .lss a2 a1 fun t33_28 =>
        wGuard true t33_28 (
          wFld t7_2 1 fun t35_29 =>
          wLd t35_29 none H2 fun t36_30 =>
          wCall Try.prog 49 [a2] H2 nx6 fun t38_31 H7 nx7 =>
          wBin .andNot t36_30 t38_31 fun t39_32 =>
          wBin .neq t39_32 (.int .u32 0) fun t40_33 =>
          (((((wLd t35_29 none H7 fun tq_34 => tq_34 = t36_30) ∧ ((wLd t35_29 none H2 fun tq_35 => tq_35 = t36_30) ∧ True)) ∧ True)) ∧ (
            tj_26 [t40_33] H7 nx7)) ∨ False) (
          ((True) ∧ (
            tj_26 [(.bool false)] H2 nx6)) ∨ False)) (fun tL_27 H5 nx5 =>
        wIf (tL_27.getD 0 undef) (
          forceV (.int .i64 16) fun tv_36 => k tv_36 H5 nx5) (
          wJoin (fun tj_37 =>
            wFld t7_2 1 fun t43_39 =>
            wLd t43_39 none H5 fun t44_40 =>
            wBin .eql t44_40 (.int .u32 0) fun t45_41 =>
            wGuard true t45_41 (
              wFld t7_2 2 fun t47_42 =>
              wLd t47_42 none H5 fun t48_43 =>
              wBin .neq t48_43 (.int .i64 (-1)) fun t49_44 =>
              tj_37 [t49_44] H5 nx5) (
              tj_37 [(.bool false)] H5 nx5)) (fun tL_38 H8 nx8 =>
            wIf (tL_38.getD 0 undef) (
              forceV (.int .i64 28) fun tv_45 => k tv_45 H8 nx8) (
              wJoin (fun tj_46 =>
                wFld t7_2 1 fun t52_48 =>
                wLd t52_48 none H8 fun t53_49 =>
                wBin .neq t53_49 (.int .u32 0) fun t54_50 =>
                wGuard true t54_50 (
                  wFld t7_2 2 fun t56_51 =>
                  wLd t56_51 none H8 fun t57_52 =>
                  wBin .lss t57_52 (.int .i64 0) fun t58_53 =>
                  wGuard false t58_53 (
                    wFld t7_2 2 fun t60_54 =>
                    wLd t60_54 none H8 fun t61_55 =>
                    wBin .geq t61_55 a0 fun t63_56 =>
                      wGuard false t63_56 (
                        wFld t7_2 1 fun t66_57 =>
                        wLd t66_57 none H8 fun t67_58 =>
                        wFld t7_2 2 fun t68_59 =>
                        wLd t68_59 none H8 fun t69_60 =>
                        wBin .shr t67_58 t69_60 fun t70_61 =>
                        wBin .and t70_61 (.int .u32 1) fun t71_62 =>
                        wBin .eql t71_62 (.int .u32 0) fun t72_63 =>
                          tj_46 [t72_63] H8 nx8) (
                          tj_46 [(.bool true)] H8 nx8)) (
                          tj_46 [(.bool true)] H8 nx8)) (
                          tj_46 [(.bool false)] H8 nx8)) (fun tL_47 H9 nx9 =>
                wIf (tL_47.getD 0 undef) (
                  forceV (.int .i64 28) fun tv_64 => k tv_64 H9 nx9) (
                  forceV (.int .i64 0) fun tv_65 => k tv_65 H9 nx9))))))))
theorem eq28 (a0 a1 a2 a3 : Value) (H : Heap) (nx : Nat) (k : EP) : wBody Try.prog 75 7 d28 [(.s 8, none)] [a0, a1, a2, a3] H nx k = F28 a0 a1 a2 a3 H nx k := by kernel_rfl
theorem spec28 {a0 a1 a2 a3 : Value} {H : Heap} {nx : Nat} {k : EP} (h : F28 a0 a1 a2 a3 H nx k) : Ans Try.prog 28 [a0, a1, a2, a3] H nx k :=
  spec_of_body mixed namesOK cfn28 ok28 (by simp) ((eq28 a0 a1 a2 a3 H nx k).symm ▸ h)

/-! 20: ordinal/elimination.Set -/
def d20 : D :=
  (.seq
    (.ops [
        (none, [⟨none, some 1, .a (.box (.s 0))⟩,
        ⟨none, some 2, .p (.mv (.c (.int .u32 0)))⟩])] (.one .nil))
    (.seq
      (.join [10] [3, 4, 5, 6, 7, 8, 9]
        (.ops [
            (none, [⟨none, some 3, .p (.fld (.s 1) 0)⟩,
            ⟨none, some 4, .r (.ld (.s 3) none)⟩,
            ⟨none, some 5, .p (.bin .lss (.s 4) (.c (.int .i64 0)))⟩,
            ⟨none, some 6, .p (.mv (.s 5))⟩]),
            (some (6, false), [⟨none, some 7, .p (.fld (.s 1) 0)⟩,
            ⟨none, some 8, .r (.ld (.s 7) none)⟩,
            ⟨none, some 9, .p (.bin .geq (.s 8) (.c (.int .i64 32)))⟩]),
            (none, [⟨none, some 10, .p (.pick (.s 6) (.c (.bool true)) (.s 9))⟩])] (.one (.tst (.one .nil) (.one .nil))))
        (.cond (.s 10)
          (.seq
            (.ops [
                (none, [⟨none, some 11, .p (.fld (.s 1) 1)⟩,
                ⟨none, some 12, .r (.ld (.s 11) none)⟩,
                ⟨none, some 2, .p (.mv (.s 12))⟩])] (.one .nil))
            .ret)
          .skip))
      (.seq
        (.draw [0, 1, 0, 4, 12, 31, 63] [
            (none, [⟨none, some 13, .p (.fld (.s 1) 1)⟩,
            ⟨none, some 14, .r (.ld (.s 13) none)⟩,
            ⟨none, some 15, .p (.fld (.s 1) 0)⟩,
            ⟨none, some 16, .r (.ld (.s 15) none)⟩,
            ⟨none, some 17, .p (.bin .shl (.c (.int .u32 1)) (.s 16))⟩,
            ⟨none, some 18, .p (.bin .or (.s 14) (.s 17))⟩,
            ⟨none, some 2, .p (.mv (.s 18))⟩])] (.one .nil))
        .ret)))
theorem cfn20 : cfn Try.prog 20 = some ⟨19, 5, d20.erase, [(.s 2, none)]⟩ := by kernel_rfl
theorem ok20 : d20.ok 19 5 = true := by kernel_rfl
noncomputable def F20 (a0 : Value) (H : Heap) (nx : Nat) (k : EP) : Prop :=
  dBox a0 fun tc_1 => wNew (.cells tc_1 0) .ptr H nx fun t1_2 H1 nx1 =>
  wJoin (fun tj_3 =>
    wFld t1_2 0 fun t3_5 =>
    wLd t3_5 none H1 fun t4_6 =>
    wBin .lss t4_6 (.int .i64 0) fun t5_7 =>
    wGuard false t5_7 (
      wFld t1_2 0 fun t7_8 =>
      wLd t7_8 none H1 fun t8_9 =>
      wBin .geq t8_9 (.int .i64 32) fun t9_10 =>
      tj_3 [t9_10] H1 nx1) (
      tj_3 [(.bool true)] H1 nx1)) (fun tL_4 H2 nx2 =>
    wIf (tL_4.getD 0 undef) (
      wFld t1_2 1 fun t11_11 =>
      wLd t11_11 none H2 fun t12_12 =>
      forceV t12_12 fun tv_13 => k tv_13 H2 nx2) (
      forceN (nx2 + 7) fun nx3 =>
      wFld t1_2 1 fun t13_14 =>
      wLd t13_14 none H2 fun t14_15 =>
      wFld t1_2 0 fun t15_16 =>
      wLd t15_16 none H2 fun t16_17 =>
      wBin .shl (.int .u32 1) t16_17 fun t17_18 =>
      wBin .or t14_15 t17_18 fun t18_19 =>
      (((((wLd t15_16 none H2 fun tq_21 => tq_21 = t16_17) ∧ True) ∧ (((wLd t13_14 none H2 fun tq_20 => tq_20 = t14_15) ∧ True) ∧ True))) ∧ (
        forceV t18_19 fun tv_22 => k tv_22 H2 nx3)) ∨ False))
theorem eq20 (a0 : Value) (H : Heap) (nx : Nat) (k : EP) : wBody Try.prog 19 5 d20 [(.s 2, none)] [a0] H nx k = F20 a0 H nx k := by kernel_rfl
theorem spec20 {a0 : Value} {H : Heap} {nx : Nat} {k : EP} (h : F20 a0 H nx k) : Ans Try.prog 20 [a0] H nx k :=
  spec_of_body mixed namesOK cfn20 ok20 (by simp) ((eq20 a0 H nx k).symm ▸ h)

/-! 8: ordinal/elimination.Check -/
def d8 : D :=
  (.seq
    (.ops [
        (none, [⟨none, some 3, .a (.box (.s 0))⟩,
        ⟨none, some 6, .p (.mv (.c (.int .i64 0)))⟩])] (.one .nil))
    (.seq
      (.seq
        (.ops [
            (none, [⟨none, some 21, .r (.ld (.s 3) (some 2))⟩,
            ⟨none, some 22, .p (.mv (.s 1))⟩,
            ⟨none, some 23, .e (.call (.c (.func (.func 27) ⟨[]⟩ ⟨[]⟩)) [.s 21, .s 22])⟩,
            ⟨none, some 7, .p (.mv (.s 23))⟩])] (.one .nil))
        (.seq
          (.ops [
              (none, [⟨none, some 24, .p (.mv (.s 7))⟩,
              ⟨none, some 25, .p (.bin .neq (.s 24) (.c (.int .i64 0)))⟩])] (.one .nil))
          (.cond (.s 25)
            (.seq
              (.ops [
                  (none, [⟨none, some 26, .p (.mv (.s 7))⟩,
                  ⟨none, some 6, .p (.mv (.s 26))⟩])] (.one .nil))
              .ret)
            .skip)))
      (.seq
        (.seq
          (.ops [
              (none, [⟨none, some 27, .p (.mv (.s 2))⟩,
              ⟨none, some 28, .r (.len (.s 27) 0)⟩,
              ⟨none, some 29, .p (.fld (.s 3) 0)⟩,
              ⟨none, some 30, .r (.ld (.s 29) none)⟩,
              ⟨none, some 31, .p (.bin .neq (.s 28) (.s 30))⟩])] (.one .nil))
          (.cond (.s 31)
            (.seq
              (.ops [
                  (none, [⟨none, some 6, .p (.mv (.c (.int .i64 6)))⟩])] (.one .nil))
              .ret)
            .skip))
        (.seq
          (.seq
            (.ops [
                (none, [⟨none, some 32, .p (.mv (.s 2))⟩,
                ⟨none, some 33, .r (.len (.s 32) 0)⟩,
                ⟨none, some 34, .p (.mv (.c (.int .i64 0)))⟩])] (.one .nil))
            (.block 0
              (.loop [34] [6, 8, 9, 10, 35, 36, 37, 38, 39, 40, 41, 42, 43, 44, 45, 46, 47, 48]
                (.seq
                  (.ops [
                      (none, [⟨none, some 35, .p (.bin .lss (.s 34) (.s 33))⟩])] (.one .nil))
                  (.seq
                    (.cond (.s 35)
                      .skip
                      (.exit 0))
                    (.seq
                      (.block 1
                        (.seq
                          (.ops [
                              (none, [⟨none, some 36, .p (.mv (.s 34))⟩,
                              ⟨none, some 37, .p (.idx (.s 32) (.s 34) none 3)⟩,
                              ⟨none, some 38, .r (.ld (.s 37) (some 3))⟩,
                              ⟨none, some 9, .a (.alloc [.int .i64 0, .int .u32 0, .int .i64 0])⟩,
                              ⟨none, some 8, .p (.mv (.s 36))⟩,
                              ⟨none, none, .e (.st (.s 9) (.s 38) 3)⟩])] (.one .nil))
                          (.seq
                            (.ops [
                                (none, [⟨none, some 39, .p (.fld (.s 3) 0)⟩,
                                ⟨none, some 40, .r (.ld (.s 39) none)⟩,
                                ⟨none, some 41, .p (.mv (.s 1))⟩,
                                ⟨none, some 42, .p (.mv (.s 8))⟩,
                                ⟨none, some 43, .r (.ld (.s 9) (some 3))⟩,
                                ⟨none, some 44, .e (.call (.c (.func (.func 28) ⟨[]⟩ ⟨[]⟩)) [.s 40, .s 41, .s 42, .s 43])⟩,
                                ⟨none, some 10, .p (.mv (.s 44))⟩])] (.one .nil))
                            (.seq
                              (.ops [
                                  (none, [⟨none, some 45, .p (.mv (.s 10))⟩,
                                  ⟨none, some 46, .p (.bin .neq (.s 45) (.c (.int .i64 0)))⟩])] (.one .nil))
                              (.cond (.s 46)
                                (.seq
                                  (.ops [
                                      (none, [⟨none, some 47, .p (.mv (.s 10))⟩,
                                      ⟨none, some 6, .p (.mv (.s 47))⟩])] (.one .nil))
                                  .ret)
                                .skip)))))
                      (.ops [
                          (none, [⟨none, some 48, .p (.bin .add (.s 34) (.c (.int .i64 1)))⟩,
                          ⟨none, some 34, .p (.mv (.s 48))⟩])] (.one .nil))))))))
          (.seq
            (.seq
              (.ops [
                  (none, [⟨none, some 49, .p (.mv (.s 2))⟩,
                  ⟨none, some 50, .r (.len (.s 49) 0)⟩,
                  ⟨none, some 51, .p (.mv (.c (.int .i64 0)))⟩])] (.one .nil))
              (.block 2
                (.loop [51] [6, 11, 12, 13, 52, 53, 54, 55, 56, 57, 58, 59, 60, 61, 62, 63, 64, 65, 66, 67, 68]
                  (.seq
                    (.ops [
                        (none, [⟨none, some 52, .p (.bin .lss (.s 51) (.s 50))⟩])] (.one .nil))
                    (.seq
                      (.cond (.s 52)
                        .skip
                        (.exit 2))
                      (.seq
                        (.block 3
                          (.seq
                            (.ops [
                                (none, [⟨none, some 53, .p (.mv (.s 51))⟩,
                                ⟨none, some 11, .p (.mv (.s 53))⟩])] (.one .nil))
                            (.seq
                              (.ops [
                                  (none, [⟨none, some 12, .p (.mv (.c (.int .i64 0)))⟩])] (.one .nil))
                              (.seq
                                (.ops [
                                    (none, [⟨none, some 54, .p (.mv (.s 11))⟩,
                                    ⟨none, some 13, .p (.mv (.s 54))⟩])] (.one .nil))
                                (.block 4
                                  (.loop [12, 13] [6, 55, 56, 57, 58, 59, 60, 61, 62, 63, 64, 65, 66, 67]
                                    (.seq
                                      (.seq
                                        (.ops [
                                            (none, [⟨none, some 55, .p (.mv (.s 13))⟩,
                                            ⟨none, some 56, .p (.bin .geq (.s 55) (.c (.int .i64 0)))⟩])] (.one .nil))
                                        (.cond (.s 56)
                                          .skip
                                          (.exit 4)))
                                      (.seq
                                        (.block 5
                                          (.seq
                                            (.ops [
                                                (none, [⟨none, some 62, .p (.mv (.s 12))⟩,
                                                ⟨none, some 63, .p (.bin .add (.s 62) (.c (.int .i64 1)))⟩,
                                                ⟨none, some 12, .p (.mv (.s 63))⟩])] (.one .nil))
                                            (.seq
                                              (.ops [
                                                  (none, [⟨none, some 64, .p (.mv (.s 12))⟩,
                                                  ⟨none, some 65, .p (.mv (.s 2))⟩,
                                                  ⟨none, some 66, .r (.len (.s 65) 0)⟩,
                                                  ⟨none, some 67, .p (.bin .gtr (.s 64) (.s 66))⟩])] (.one .nil))
                                              (.cond (.s 67)
                                                (.seq
                                                  (.ops [
                                                      (none, [⟨none, some 6, .p (.mv (.c (.int .i64 16)))⟩])] (.one .nil))
                                                  .ret)
                                                .skip))))
                                        (.ops [
                                            (none, [⟨none, some 57, .p (.mv (.s 2))⟩,
                                            ⟨none, some 58, .p (.mv (.s 13))⟩,
                                            ⟨none, some 59, .p (.idx (.s 57) (.s 58) none 3)⟩,
                                            ⟨none, some 60, .p (.fld (.s 59) 2)⟩,
                                            ⟨none, some 61, .r (.ld (.s 60) none)⟩,
                                            ⟨none, some 13, .p (.mv (.s 61))⟩])] (.one .nil))))))))))
                        (.ops [
                            (none, [⟨none, some 68, .p (.bin .add (.s 51) (.c (.int .i64 1)))⟩,
                            ⟨none, some 51, .p (.mv (.s 68))⟩])] (.one .nil))))))))
            (.seq
              (.seq
                (.ops [
                    (none, [⟨none, some 69, .p (.mv (.s 2))⟩,
                    ⟨none, some 70, .r (.len (.s 69) 0)⟩,
                    ⟨none, some 71, .p (.mv (.c (.int .i64 0)))⟩])] (.one .nil))
                (.block 6
                  (.loop [71] [6, 15, 72, 73, 74, 75, 76, 77, 78, 79, 80, 81, 82, 83, 84, 85, 86, 87, 88, 89, 90, 91, 92, 93, 94]
                    (.seq
                      (.ops [
                          (none, [⟨none, some 72, .p (.bin .lss (.s 71) (.s 70))⟩])] (.one .nil))
                      (.seq
                        (.cond (.s 72)
                          .skip
                          (.exit 6))
                        (.seq
                          (.block 7
                            (.seq
                              (.ops [
                                  (none, [⟨none, some 73, .p (.idx (.s 69) (.s 71) none 3)⟩,
                                  ⟨none, some 74, .r (.ld (.s 73) (some 3))⟩,
                                  ⟨none, some 15, .a (.alloc [.int .i64 0, .int .u32 0, .int .i64 0])⟩,
                                  ⟨none, none, .e (.st (.s 15) (.s 74) 3)⟩])] (.one .nil))
                              (.join [93] [75, 76, 77, 78, 79, 80, 81, 82, 83, 84, 85, 86, 87, 88, 89, 90, 91, 92]
                                (.draw [0, 1, 3, 7, 15, 31, 15, 79, 207, 511, 15, 15, 2063, 7183, 15375, 31759, 65535, 131071, 262143] [
                                    (none, [⟨none, some 75, .p (.fld (.s 15) 2)⟩,
                                    ⟨none, some 76, .r (.ld (.s 75) none)⟩,
                                    ⟨none, some 77, .p (.bin .geq (.s 76) (.c (.int .i64 0)))⟩,
                                    ⟨none, some 78, .p (.mv (.s 77))⟩]),
                                    (some (78, true), [⟨none, some 79, .p (.fld (.s 15) 1)⟩,
                                    ⟨none, some 80, .r (.ld (.s 79) none)⟩,
                                    ⟨none, some 81, .p (.fld (.s 15) 2)⟩,
                                    ⟨none, some 82, .r (.ld (.s 81) none)⟩,
                                    ⟨none, some 83, .p (.bin .shl (.c (.int .u32 1)) (.s 82))⟩,
                                    ⟨none, some 84, .p (.bin .andNot (.s 80) (.s 83))⟩,
                                    ⟨none, some 85, .p (.mv (.s 2))⟩,
                                    ⟨none, some 86, .p (.fld (.s 15) 2)⟩,
                                    ⟨none, some 87, .r (.ld (.s 86) none)⟩,
                                    ⟨none, some 88, .p (.idx (.s 85) (.s 87) none 3)⟩,
                                    ⟨none, some 89, .p (.fld (.s 88) 1)⟩,
                                    ⟨none, some 90, .r (.ld (.s 89) none)⟩,
                                    ⟨none, some 91, .p (.bin .andNot (.s 84) (.s 90))⟩,
                                    ⟨none, some 92, .p (.bin .neq (.s 91) (.c (.int .u32 0)))⟩]),
                                    (none, [⟨none, some 93, .p (.pick (.s 78) (.s 92) (.c (.bool false)))⟩])] (.one (.tst (.one .nil) (.one .nil))))
                                (.cond (.s 93)
                                  (.seq
                                    (.ops [
                                        (none, [⟨none, some 6, .p (.mv (.c (.int .i64 28)))⟩])] (.one .nil))
                                    .ret)
                                  .skip))))
                          (.ops [
                              (none, [⟨none, some 94, .p (.bin .add (.s 71) (.c (.int .i64 1)))⟩,
                              ⟨none, some 71, .p (.mv (.s 94))⟩])] (.one .nil))))))))
              (.seq
                (.seq
                  (.ops [
                      (none, [⟨none, some 95, .p (.fld (.s 3) 1)⟩,
                      ⟨none, some 96, .r (.ld (.s 95) none)⟩,
                      ⟨none, some 97, .r (.len (.s 96) 0)⟩,
                      ⟨none, some 98, .p (.mv (.c (.int .i64 0)))⟩])] (.one .nil))
                  (.block 8
                    (.loop [98] [6, 17, 18, 20, 99, 100, 101, 102, 103, 104, 105, 106, 107, 108, 109, 110, 111, 112, 113, 114, 115, 116, 117, 118, 119, 120, 121]
                      (.seq
                        (.ops [
                            (none, [⟨none, some 99, .p (.bin .lss (.s 98) (.s 97))⟩])] (.one .nil))
                        (.seq
                          (.cond (.s 99)
                            .skip
                            (.exit 8))
                          (.seq
                            (.block 9
                              (.seq
                                (.ops [
                                    (none, [⟨none, some 100, .p (.idx (.s 96) (.s 98) none 1)⟩,
                                    ⟨none, some 101, .r (.ld (.s 100) none)⟩,
                                    ⟨none, some 17, .p (.mv (.s 101))⟩])] (.one .nil))
                                (.seq
                                  (.ops [
                                      (none, [⟨none, some 102, .p (.mv (.s 17))⟩,
                                      ⟨none, some 103, .p (.bin .eql (.s 102) (.c (.int .u32 0)))⟩,
                                      ⟨none, some 18, .p (.mv (.s 103))⟩])] (.one .nil))
                                  (.seq
                                    (.seq
                                      (.ops [
                                          (none, [⟨none, some 104, .p (.mv (.s 2))⟩,
                                          ⟨none, some 105, .r (.len (.s 104) 0)⟩,
                                          ⟨none, some 106, .p (.mv (.c (.int .i64 0)))⟩])] (.one .nil))
                                      (.block 10
                                        (.loop [18, 106] [20, 107, 108, 109, 110, 111, 112, 113, 114, 115, 116, 117, 118]
                                          (.seq
                                            (.ops [
                                                (none, [⟨none, some 107, .p (.bin .lss (.s 106) (.s 105))⟩])] (.one .nil))
                                            (.seq
                                              (.cond (.s 107)
                                                .skip
                                                (.exit 10))
                                              (.join [18] [20, 108, 109, 110, 111, 112, 113, 114, 115, 116, 117]
                                                (.block 11
                                                  (.seq
                                                    (.ops [
                                                        (none, [⟨none, some 108, .p (.idx (.s 104) (.s 106) none 3)⟩,
                                                        ⟨none, some 109, .r (.ld (.s 108) (some 3))⟩,
                                                        ⟨none, some 20, .a (.alloc [.int .i64 0, .int .u32 0, .int .i64 0])⟩,
                                                        ⟨none, none, .e (.st (.s 20) (.s 109) 3)⟩])] (.one .nil))
                                                    (.ops [
                                                        (none, [⟨none, some 110, .p (.mv (.s 18))⟩,
                                                        ⟨none, some 111, .p (.mv (.s 110))⟩]),
                                                        (some (111, false), [⟨none, some 112, .p (.mv (.s 17))⟩,
                                                        ⟨none, some 113, .r (.ld (.s 20) (some 3))⟩,
                                                        ⟨none, some 114, .e (.call (.c (.func (.func 20) ⟨[]⟩ ⟨[]⟩)) [.s 113])⟩,
                                                        ⟨none, some 115, .p (.bin .andNot (.s 112) (.s 114))⟩,
                                                        ⟨none, some 116, .p (.bin .eql (.s 115) (.c (.int .u32 0)))⟩]),
                                                        (none, [⟨none, some 117, .p (.pick (.s 111) (.c (.bool true)) (.s 116))⟩,
                                                        ⟨none, some 18, .p (.mv (.s 117))⟩])] (.one (.tst (.one .nil) (.one .nil))))))
                                                (.ops [
                                                    (none, [⟨none, some 118, .p (.bin .add (.s 106) (.c (.int .i64 1)))⟩,
                                                    ⟨none, some 106, .p (.mv (.s 118))⟩])] (.one .nil))))))))
                                    (.seq
                                      (.ops [
                                          (none, [⟨none, some 119, .p (.mv (.s 18))⟩,
                                          ⟨none, some 120, .p (.un .not (.s 119))⟩])] (.one .nil))
                                      (.cond (.s 120)
                                        (.seq
                                          (.ops [
                                              (none, [⟨none, some 6, .p (.mv (.c (.int .i64 9)))⟩])] (.one .nil))
                                          .ret)
                                        .skip))))))
                            (.ops [
                                (none, [⟨none, some 121, .p (.bin .add (.s 98) (.c (.int .i64 1)))⟩,
                                ⟨none, some 98, .p (.mv (.s 121))⟩])] (.one .nil))))))))
                (.seq
                  (.ops [
                      (none, [⟨none, some 6, .p (.mv (.c (.int .i64 0)))⟩])] (.one .nil))
                  .ret))))))))
theorem cfn8 : cfn Try.prog 8 = some ⟨122, 7, d8.erase, [(.s 6, none)]⟩ := by kernel_rfl
theorem ok8 : d8.ok 122 7 = true := by kernel_rfl
noncomputable def F8 (a0 a1 a2 : Value) (H : Heap) (nx : Nat) (k : EP) : Prop :=
  dBox a0 fun tc_1 => wNew (.cells tc_1 0) .ptr H nx fun t3_2 H1 nx1 =>
  wLd t3_2 (some 2) H1 fun t21_3 =>
  wCall Try.prog 27 [t21_3, a1] H1 nx1 fun t23_4 H2 nx2 =>
  wBin .neq t23_4 (.int .i64 0) fun t25_5 =>
  wIf t25_5 (
    forceV t23_4 fun tv_6 => k tv_6 H2 nx2) (
    wLen a2 0 H2 fun t28_7 =>
    wFld t3_2 0 fun t29_8 =>
    wLd t29_8 none H2 fun t30_9 =>
    wBin .neq t28_7 t30_9 fun t31_10 =>
    wIf t31_10 (
      forceV (.int .i64 6) fun tv_11 => k tv_11 H2 nx2) (
      wLen a2 0 H2 fun t33_12 =>
      wLoop (fun tih_13 tL_14 H3 nx3 =>
        wBin .lss (tL_14.getD 0 undef) t33_12 fun t35_15 =>
        wIf t35_15 (
          wIdx a2 (tL_14.getD 0 undef) none 3 fun t37_16 =>
          wLd t37_16 (some 3) H3 fun t38_17 =>
          wNew (.cells [.int .i64 0, .int .u32 0, .int .i64 0] 0) .ptr H3 nx3 fun t9_18 H4 nx4 =>
          wSt t9_18 t38_17 3 H4 fun H5 =>
          wFld t3_2 0 fun t39_19 =>
          wLd t39_19 none H5 fun t40_20 =>
          wLd t9_18 (some 3) H5 fun t43_21 =>
          wCall Try.prog 28 [t40_20, a1, (tL_14.getD 0 undef), t43_21] H5 nx4 fun t44_22 H6 nx6 =>
          wBin .neq t44_22 (.int .i64 0) fun t46_23 =>
          wIf t46_23 (
            forceV t44_22 fun tv_24 => k tv_24 H6 nx6) (
            wBin .add (tL_14.getD 0 undef) (.int .i64 1) fun t48_25 =>
            tih_13 [t48_25] H6 nx6)) (
          wLen a2 0 H3 fun t50_26 =>
          wLoop (fun tih_27 tL_28 H7 nx7 =>
            wBin .lss (tL_28.getD 0 undef) t50_26 fun t52_29 =>
            wIf t52_29 (
              wLoop (fun tih_30 tL_31 H8 nx8 =>
                wBin .geq (tL_31.getD 1 undef) (.int .i64 0) fun t56_32 =>
                wIf t56_32 (
                  wBin .add (tL_31.getD 0 undef) (.int .i64 1) fun t63_33 =>
                  wLen a2 0 H8 fun t66_34 =>
                  wBin .gtr t63_33 t66_34 fun t67_35 =>
                  wIf t67_35 (
                    forceV (.int .i64 16) fun tv_36 => k tv_36 H8 nx8) (
                    wIdx a2 (tL_31.getD 1 undef) none 3 fun t59_37 =>
                    wFld t59_37 2 fun t60_38 =>
                    wLd t60_38 none H8 fun t61_39 =>
                    tih_30 [t63_33, t61_39] H8 nx8)) (
                  wBin .add (tL_28.getD 0 undef) (.int .i64 1) fun t68_40 =>
                  tih_27 [t68_40] H8 nx8)) [(.int .i64 0), (tL_28.getD 0 undef)] H7 nx7) (
              wLen a2 0 H7 fun t70_41 =>
              wLoop (fun tih_42 tL_43 H9 nx9 =>
                wBin .lss (tL_43.getD 0 undef) t70_41 fun t72_44 =>
                wIf t72_44 (
                  wIdx a2 (tL_43.getD 0 undef) none 3 fun t73_45 =>
                  wLd t73_45 (some 3) H9 fun t74_46 =>
                  wNew (.cells [.int .i64 0, .int .u32 0, .int .i64 0] 0) .ptr H9 nx9 fun t15_47 H10 nx10 =>
                  wSt t15_47 t74_46 3 H10 fun H11 =>
                  wJoin (fun tj_48 =>
                    forceN (nx10 + 19) fun nx13 =>
                    wFld t15_47 2 fun t75_50 =>
                    wLd t75_50 none H11 fun t76_51 =>
                    wBin .geq t76_51 (.int .i64 0) fun t77_52 =>
                    wGuard true t77_52 (
                      wFld t15_47 1 fun t79_53 =>
                      wLd t79_53 none H11 fun t80_54 =>
                      wFld t15_47 2 fun t81_55 =>
                      wLd t81_55 none H11 fun t82_56 =>
                      wBin .shl (.int .u32 1) t82_56 fun t83_57 =>
                      wBin .andNot t80_54 t83_57 fun t84_58 =>
                      wFld t15_47 2 fun t86_59 =>
                      wLd t86_59 none H11 fun t87_60 =>
                      wIdx a2 t87_60 none 3 fun t88_61 =>
                      wFld t88_61 1 fun t89_62 =>
                      wLd t89_62 none H11 fun t90_63 =>
                      wBin .andNot t84_58 t90_63 fun t91_64 =>
                      wBin .neq t91_64 (.int .u32 0) fun t92_65 =>
                      (((((wLd t89_62 none H11 fun tq_70 => tq_70 = t90_63) ∧ True) ∧ (((wLd t86_59 none H11 fun tq_69 => tq_69 = t87_60) ∧ True) ∧ (((wLd t81_55 none H11 fun tq_68 => tq_68 = t82_56) ∧ True) ∧ (((wLd t79_53 none H11 fun tq_67 => tq_67 = t80_54) ∧ True) ∧ (((wLd t75_50 none H11 fun tq_66 => tq_66 = t76_51) ∧ True) ∧ True)))))) ∧ (
                        tj_48 [t92_65] H11 nx13)) ∨ False) (
                      (((((wLd t75_50 none H11 fun tq_71 => tq_71 = t76_51) ∧ True) ∧ True)) ∧ (
                        tj_48 [(.bool false)] H11 nx13)) ∨ False)) (fun tL_49 H12 nx12 =>
                    wIf (tL_49.getD 0 undef) (
                      forceV (.int .i64 28) fun tv_72 => k tv_72 H12 nx12) (
                      wBin .add (tL_43.getD 0 undef) (.int .i64 1) fun t94_73 =>
                      tih_42 [t94_73] H12 nx12))) (
                  wFld t3_2 1 fun t95_74 =>
                  wLd t95_74 none H9 fun t96_75 =>
                  wLen t96_75 0 H9 fun t97_76 =>
                  wLoop (fun tih_77 tL_78 H14 nx14 =>
                    wBin .lss (tL_78.getD 0 undef) t97_76 fun t99_79 =>
                    wIf t99_79 (
                      wIdx t96_75 (tL_78.getD 0 undef) none 1 fun t100_80 =>
                      wLd t100_80 none H14 fun t101_81 =>
                      wBin .eql t101_81 (.int .u32 0) fun t103_82 =>
                      wLen a2 0 H14 fun t105_83 =>
                      wLoop (fun tih_84 tL_85 H15 nx15 =>
                        wBin .lss (tL_85.getD 1 undef) t105_83 fun t107_86 =>
                        wIf t107_86 (
                          wJoin (fun tj_87 =>
                            wIdx a2 (tL_85.getD 1 undef) none 3 fun t108_89 =>
                            wLd t108_89 (some 3) H15 fun t109_90 =>
                            wNew (.cells [.int .i64 0, .int .u32 0, .int .i64 0] 0) .ptr H15 nx15 fun t20_91 H17 nx17 =>
                            wSt t20_91 t109_90 3 H17 fun H18 =>
                            wGuard false (tL_85.getD 0 undef) (
                              wLd t20_91 (some 3) H18 fun t113_92 =>
                              wCall Try.prog 20 [t113_92] H18 nx17 fun t114_93 H19 nx19 =>
                              wBin .andNot t101_81 t114_93 fun t115_94 =>
                              wBin .eql t115_94 (.int .u32 0) fun t116_95 =>
                              tj_87 [t116_95] H19 nx19) (
                              tj_87 [(.bool true)] H18 nx17)) (fun tL_88 H16 nx16 =>
                            wBin .add (tL_85.getD 1 undef) (.int .i64 1) fun t118_96 =>
                            tih_84 [(tL_88.getD 0 undef), t118_96] H16 nx16)) (
                          wUn .not (tL_85.getD 0 undef) fun t120_97 =>
                          wIf t120_97 (
                            forceV (.int .i64 9) fun tv_98 => k tv_98 H15 nx15) (
                            wBin .add (tL_78.getD 0 undef) (.int .i64 1) fun t121_99 =>
                            tih_77 [t121_99] H15 nx15))) [t103_82, (.int .i64 0)] H14 nx14) (
                      forceV (.int .i64 0) fun tv_100 => k tv_100 H14 nx14)) [(.int .i64 0)] H9 nx9)) [(.int .i64 0)] H7 nx7)) [(.int .i64 0)] H3 nx3)) [(.int .i64 0)] H2 nx2))
theorem eq8 (a0 a1 a2 : Value) (H : Heap) (nx : Nat) (k : EP) : wBody Try.prog 122 7 d8 [(.s 6, none)] [a0, a1, a2] H nx k = F8 a0 a1 a2 H nx k := by kernel_rfl
theorem spec8 {a0 a1 a2 : Value} {H : Heap} {nx : Nat} {k : EP} (h : F8 a0 a1 a2 H nx k) : Ans Try.prog 8 [a0, a1, a2] H nx k :=
  spec_of_body mixed namesOK cfn8 ok8 (by simp) ((eq8 a0 a1 a2 H nx k).symm ▸ h)

/-! 9: ordinal/ordinalref26.Check -/
def d9 : D :=
  (.seq
    (.ops [
        (none, [⟨none, some 1, .a (.box (.s 0))⟩,
        ⟨none, some 2, .p (.mv (.c (.int .i64 0)))⟩])] (.one .nil))
    (.seq
      (.join [12] [5, 6, 7, 8, 9, 10, 11]
        (.ops [
            (none, [⟨none, some 5, .p (.fld (.s 1) 0)⟩,
            ⟨none, some 6, .r (.ld (.s 5) none)⟩,
            ⟨none, some 7, .p (.bin .lss (.s 6) (.c (.int .i64 0)))⟩,
            ⟨none, some 8, .p (.mv (.s 7))⟩]),
            (some (8, false), [⟨none, some 9, .p (.fld (.s 1) 0)⟩,
            ⟨none, some 10, .r (.ld (.s 9) none)⟩,
            ⟨none, some 11, .p (.bin .gtr (.s 10) (.c (.int .i64 32)))⟩]),
            (none, [⟨none, some 12, .p (.pick (.s 8) (.c (.bool true)) (.s 11))⟩])] (.one (.tst (.one .nil) (.one .nil))))
        (.cond (.s 12)
          (.seq
            (.ops [
                (none, [⟨none, some 2, .p (.mv (.c (.int .i64 3)))⟩])] (.one .nil))
            .ret)
          .skip))
      (.seq
        (.seq
          (.ops [
              (none, [⟨none, some 13, .p (.fld (.s 1) 1)⟩,
              ⟨none, some 14, .r (.ld (.s 13) none)⟩,
              ⟨none, some 15, .r (.len (.s 14) 0)⟩,
              ⟨none, some 16, .p (.bin .gtr (.s 15) (.c (.int .i64 64)))⟩])] (.one .nil))
          (.cond (.s 16)
            (.seq
              (.ops [
                  (none, [⟨none, some 2, .p (.mv (.c (.int .i64 12)))⟩])] (.one .nil))
              .ret)
            .skip))
        (.seq
          (.seq
            (.ops [
                (none, [⟨none, some 3, .p (.mv (.c (.int .i64 0)))⟩])] (.one .nil))
            (.block 0
              (.loop [3] [2, 4, 17, 18, 19, 20, 21, 22, 23, 24, 25, 26, 27, 28, 29, 30, 31, 32, 33, 34, 35, 36]
                (.seq
                  (.seq
                    (.ops [
                        (none, [⟨none, some 17, .p (.mv (.s 3))⟩,
                        ⟨none, some 18, .p (.fld (.s 1) 1)⟩,
                        ⟨none, some 19, .r (.ld (.s 18) none)⟩,
                        ⟨none, some 20, .r (.len (.s 19) 0)⟩,
                        ⟨none, some 21, .p (.bin .lss (.s 17) (.s 20))⟩])] (.one .nil))
                    (.cond (.s 21)
                      .skip
                      (.exit 0)))
                  (.seq
                    (.block 1
                      (.seq
                        (.ops [
                            (none, [⟨none, some 24, .p (.fld (.s 1) 0)⟩,
                            ⟨none, some 25, .r (.ld (.s 24) none)⟩,
                            ⟨none, some 4, .p (.mv (.s 25))⟩])] (.one .nil))
                        (.block 2
                          (.loop [4] [2, 26, 27, 28, 29, 30, 31, 32, 33, 34, 35, 36]
                            (.seq
                              (.seq
                                (.ops [
                                    (none, [⟨none, some 26, .p (.mv (.s 4))⟩,
                                    ⟨none, some 27, .p (.bin .lss (.s 26) (.c (.int .i64 32)))⟩])] (.one .nil))
                                (.cond (.s 27)
                                  .skip
                                  (.exit 2)))
                              (.seq
                                (.block 3
                                  (.seq
                                    (.ops [
                                        (none, [⟨none, some 30, .p (.fld (.s 1) 1)⟩,
                                        ⟨none, some 31, .r (.ld (.s 30) none)⟩,
                                        ⟨none, some 32, .p (.mv (.s 3))⟩,
                                        ⟨none, some 33, .p (.idx (.s 31) (.s 32) none 1)⟩,
                                        ⟨none, some 34, .r (.ld (.s 33) none)⟩,
                                        ⟨none, some 35, .p (.mv (.s 4))⟩,
                                        ⟨none, some 36, .e (.call (.c (.func (.func 29) ⟨[]⟩ ⟨[]⟩)) [.s 34, .s 35])⟩])] (.one .nil))
                                    (.cond (.s 36)
                                      (.seq
                                        (.ops [
                                            (none, [⟨none, some 2, .p (.mv (.c (.int .i64 1)))⟩])] (.one .nil))
                                        .ret)
                                      .skip)))
                                (.ops [
                                    (none, [⟨none, some 28, .p (.mv (.s 4))⟩,
                                    ⟨none, some 29, .p (.bin .add (.s 28) (.c (.int .i64 1)))⟩,
                                    ⟨none, some 4, .p (.mv (.s 29))⟩])] (.one .nil))))))))
                    (.ops [
                        (none, [⟨none, some 22, .p (.mv (.s 3))⟩,
                        ⟨none, some 23, .p (.bin .add (.s 22) (.c (.int .i64 1)))⟩,
                        ⟨none, some 3, .p (.mv (.s 23))⟩])] (.one .nil)))))))
          (.seq
            (.ops [
                (none, [⟨none, some 2, .p (.mv (.c (.int .i64 0)))⟩])] (.one .nil))
            .ret)))))
theorem cfn9 : cfn Try.prog 9 = some ⟨37, 6, d9.erase, [(.s 2, none)]⟩ := by kernel_rfl
theorem ok9 : d9.ok 37 6 = true := by kernel_rfl
noncomputable def F9 (a0 : Value) (H : Heap) (nx : Nat) (k : EP) : Prop :=
  dBox a0 fun tc_1 => wNew (.cells tc_1 0) .ptr H nx fun t1_2 H1 nx1 =>
  wJoin (fun tj_3 =>
    wFld t1_2 0 fun t5_5 =>
    wLd t5_5 none H1 fun t6_6 =>
    wBin .lss t6_6 (.int .i64 0) fun t7_7 =>
    wGuard false t7_7 (
      wFld t1_2 0 fun t9_8 =>
      wLd t9_8 none H1 fun t10_9 =>
      wBin .gtr t10_9 (.int .i64 32) fun t11_10 =>
      tj_3 [t11_10] H1 nx1) (
      tj_3 [(.bool true)] H1 nx1)) (fun tL_4 H2 nx2 =>
    wIf (tL_4.getD 0 undef) (
      forceV (.int .i64 3) fun tv_11 => k tv_11 H2 nx2) (
      wFld t1_2 1 fun t13_12 =>
      wLd t13_12 none H2 fun t14_13 =>
      wLen t14_13 0 H2 fun t15_14 =>
      wBin .gtr t15_14 (.int .i64 64) fun t16_15 =>
      wIf t16_15 (
        forceV (.int .i64 12) fun tv_16 => k tv_16 H2 nx2) (
        wLoop (fun tih_17 tL_18 H3 nx3 =>
          wFld t1_2 1 fun t18_19 =>
          wLd t18_19 none H3 fun t19_20 =>
          wLen t19_20 0 H3 fun t20_21 =>
          wBin .lss (tL_18.getD 0 undef) t20_21 fun t21_22 =>
          wIf t21_22 (
            wFld t1_2 0 fun t24_23 =>
            wLd t24_23 none H3 fun t25_24 =>
            wLoop (fun tih_25 tL_26 H4 nx4 =>
              wBin .lss (tL_26.getD 0 undef) (.int .i64 32) fun t27_27 =>
              wIf t27_27 (
                wFld t1_2 1 fun t30_28 =>
                wLd t30_28 none H4 fun t31_29 =>
                wIdx t31_29 (tL_18.getD 0 undef) none 1 fun t33_30 =>
                wLd t33_30 none H4 fun t34_31 =>
                wCall Try.prog 29 [t34_31, (tL_26.getD 0 undef)] H4 nx4 fun t36_32 H5 nx5 =>
                wIf t36_32 (
                  forceV (.int .i64 1) fun tv_33 => k tv_33 H5 nx5) (
                  wBin .add (tL_26.getD 0 undef) (.int .i64 1) fun t29_34 =>
                  tih_25 [t29_34] H5 nx5)) (
                wBin .add (tL_18.getD 0 undef) (.int .i64 1) fun t23_35 =>
                tih_17 [t23_35] H4 nx4)) [t25_24] H3 nx3) (
            forceV (.int .i64 0) fun tv_36 => k tv_36 H3 nx3)) [(.int .i64 0)] H2 nx2)))
theorem eq9 (a0 : Value) (H : Heap) (nx : Nat) (k : EP) : wBody Try.prog 37 6 d9 [(.s 2, none)] [a0] H nx k = F9 a0 H nx k := by kernel_rfl
theorem spec9 {a0 : Value} {H : Heap} {nx : Nat} {k : EP} (h : F9 a0 H nx k) : Ans Try.prog 9 [a0] H nx k :=
  spec_of_body mixed namesOK cfn9 ok9 (by simp) ((eq9 a0 H nx k).symm ▸ h)

/-! 10: ordinal/ordinallaw26.Of -/
def d10 : D :=
  (.seq
    (.ops [
        (none, [⟨none, some 1, .a (.box (.s 0))⟩,
        ⟨none, some 2, .a (.alloc [.int .i64 0, .slice none 0 0])⟩])] (.one .nil))
    (.seq
      (.ops [
          (none, [⟨none, some 3, .p (.fld (.s 1) 0)⟩,
          ⟨none, some 4, .r (.ld (.s 3) none)⟩,
          ⟨none, some 5, .p (.fld (.s 1) 1)⟩,
          ⟨none, some 6, .r (.ld (.s 5) none)⟩,
          ⟨none, some 7, .p (.build [.int .i64 0, .slice none 0 0] [(0, 1), (1, 1)] [(0, .s 4), (1, .s 6)])⟩,
          ⟨none, none, .e (.st (.s 2) (.s 7) 2)⟩])] (.one .nil))
      .ret))
theorem cfn10 : cfn Try.prog 10 = some ⟨8, 4, d10.erase, [(.s 2, some (some 2))]⟩ := by kernel_rfl
theorem ok10 : d10.ok 8 4 = true := by kernel_rfl
noncomputable def F10 (a0 : Value) (H : Heap) (nx : Nat) (k : EP) : Prop :=
  dBox a0 fun tc_1 => wNew (.cells tc_1 0) .ptr H nx fun t1_2 H1 nx1 =>
  wNew (.cells [.int .i64 0, .slice none 0 0] 0) .ptr H1 nx1 fun t2_3 H2 nx2 =>
  wFld t1_2 0 fun t3_4 =>
  wLd t3_4 none H2 fun t4_5 =>
  wFld t1_2 1 fun t5_6 =>
  wLd t5_6 none H2 fun t6_7 =>
  wBuild [.int .i64 0, .slice none 0 0] [(0, 1), (1, 1)] [(0, t4_5), (1, t6_7)] fun t7_8 =>
  wSt t2_3 t7_8 2 H2 fun H3 =>
  wLd t2_3 (some 2) H3 fun tr_9 =>
  forceV tr_9 fun tv_10 => k tv_10 H3 nx2
theorem eq10 (a0 : Value) (H : Heap) (nx : Nat) (k : EP) : wBody Try.prog 8 4 d10 [(.s 2, some (some 2))] [a0] H nx k = F10 a0 H nx k := by kernel_rfl
theorem spec10 {a0 : Value} {H : Heap} {nx : Nat} {k : EP} (h : F10 a0 H nx k) : Ans Try.prog 10 [a0] H nx k :=
  spec_of_body mixed namesOK cfn10 ok10 (by simp) ((eq10 a0 H nx k).symm ▸ h)

/-! 30: ordinal/ordinalref30.wrong -/
def d30 : D :=
  (.seq
    (.ops [
        (none, [⟨none, some 7, .a (.box (.s 3))⟩,
        ⟨none, some 8, .p (.mv (.c (.int .i64 0)))⟩])] (.one .nil))
    (.seq
      (.join [20] [11, 12, 13, 14, 15, 16, 17, 18, 19]
        (.ops [
            (none, [⟨none, some 11, .p (.fld (.s 7) 0)⟩,
            ⟨none, some 12, .r (.ld (.s 11) none)⟩,
            ⟨none, some 13, .p (.mv (.s 2))⟩,
            ⟨none, some 14, .p (.bin .neq (.s 12) (.s 13))⟩,
            ⟨none, some 15, .p (.mv (.s 14))⟩]),
            (some (15, false), [⟨none, some 16, .p (.fld (.s 7) 1)⟩,
            ⟨none, some 17, .r (.ld (.s 16) none)⟩,
            ⟨none, some 18, .p (.mv (.s 2))⟩,
            ⟨none, some 19, .e (.call (.c (.func (.func 29) ⟨[]⟩ ⟨[]⟩)) [.s 17, .s 18])⟩]),
            (none, [⟨none, some 20, .p (.pick (.s 15) (.c (.bool true)) (.s 19))⟩])] (.one (.tst (.one .nil) (.one .nil))))
        (.cond (.s 20)
          (.seq
            (.ops [
                (none, [⟨none, some 8, .p (.mv (.c (.int .i64 1)))⟩])] (.one .nil))
            .ret)
          .skip))
      (.seq
        (.seq
          (.ops [
              (none, [⟨none, some 21, .p (.mv (.s 0))⟩,
              ⟨none, some 9, .p (.mv (.s 21))⟩])] (.one .nil))
          (.block 0
            (.loop [9] [8, 22, 23, 24, 25, 26, 27, 28, 29]
              (.seq
                (.seq
                  (.ops [
                      (none, [⟨none, some 22, .p (.mv (.s 9))⟩,
                      ⟨none, some 23, .p (.bin .lss (.s 22) (.c (.int .i64 32)))⟩])] (.one .nil))
                  (.cond (.s 23)
                    .skip
                    (.exit 0)))
                (.seq
                  (.block 1
                    (.seq
                      (.ops [
                          (none, [⟨none, some 26, .p (.fld (.s 7) 1)⟩,
                          ⟨none, some 27, .r (.ld (.s 26) none)⟩,
                          ⟨none, some 28, .p (.mv (.s 9))⟩,
                          ⟨none, some 29, .e (.call (.c (.func (.func 29) ⟨[]⟩ ⟨[]⟩)) [.s 27, .s 28])⟩])] (.one .nil))
                      (.cond (.s 29)
                        (.seq
                          (.ops [
                              (none, [⟨none, some 8, .p (.mv (.c (.int .i64 1)))⟩])] (.one .nil))
                          .ret)
                        .skip)))
                  (.ops [
                      (none, [⟨none, some 24, .p (.mv (.s 9))⟩,
                      ⟨none, some 25, .p (.bin .add (.s 24) (.c (.int .i64 1)))⟩,
                      ⟨none, some 9, .p (.mv (.s 25))⟩])] (.one .nil)))))))
        (.seq
          (.seq
            (.ops [
                (none, [⟨none, some 30, .p (.mv (.s 2))⟩,
                ⟨none, some 31, .p (.bin .add (.s 30) (.c (.int .i64 1)))⟩,
                ⟨none, some 10, .p (.mv (.s 31))⟩])] (.one .nil))
            (.block 2
              (.loop [10] [8, 32, 33, 34, 35, 36, 37, 38, 39, 40, 41, 42, 43, 44, 45]
                (.seq
                  (.join [39] [32, 33, 34, 35, 36, 37, 38]
                    (.ops [
                        (none, [⟨none, some 32, .p (.mv (.s 10))⟩,
                        ⟨none, some 33, .p (.mv (.s 0))⟩,
                        ⟨none, some 34, .p (.bin .lss (.s 32) (.s 33))⟩,
                        ⟨none, some 35, .p (.mv (.s 34))⟩]),
                        (some (35, true), [⟨none, some 36, .p (.mv (.s 2))⟩,
                        ⟨none, some 37, .p (.mv (.s 1))⟩,
                        ⟨none, some 38, .p (.bin .lss (.s 36) (.s 37))⟩]),
                        (none, [⟨none, some 39, .p (.pick (.s 35) (.s 38) (.c (.bool false)))⟩])] (.one (.tst (.one .nil) (.one .nil))))
                    (.cond (.s 39)
                      .skip
                      (.exit 2)))
                  (.seq
                    (.block 3
                      (.seq
                        (.ops [
                            (none, [⟨none, some 42, .p (.fld (.s 7) 1)⟩,
                            ⟨none, some 43, .r (.ld (.s 42) none)⟩,
                            ⟨none, some 44, .p (.mv (.s 10))⟩,
                            ⟨none, some 45, .e (.call (.c (.func (.func 29) ⟨[]⟩ ⟨[]⟩)) [.s 43, .s 44])⟩])] (.one .nil))
                        (.cond (.s 45)
                          (.seq
                            (.ops [
                                (none, [⟨none, some 8, .p (.mv (.c (.int .i64 16)))⟩])] (.one .nil))
                            .ret)
                          .skip)))
                    (.ops [
                        (none, [⟨none, some 40, .p (.mv (.s 10))⟩,
                        ⟨none, some 41, .p (.bin .add (.s 40) (.c (.int .i64 1)))⟩,
                        ⟨none, some 10, .p (.mv (.s 41))⟩])] (.one .nil)))))))
          (.seq
            (.join [76] [46, 47, 48, 49, 50, 51, 52, 53, 54, 55, 56, 57, 58, 59, 60, 61, 62, 63, 64, 65, 66, 67, 68, 69, 70, 71, 72, 73, 74, 75]
              (.ops [
                  (none, [⟨none, some 46, .p (.fld (.s 7) 1)⟩,
                  ⟨none, some 47, .r (.ld (.s 46) none)⟩,
                  ⟨none, some 48, .p (.bin .eql (.s 47) (.c (.int .u32 0)))⟩,
                  ⟨none, some 49, .p (.mv (.s 48))⟩]),
                  (some (49, true), [⟨none, some 50, .p (.fld (.s 7) 2)⟩,
                  ⟨none, some 51, .r (.ld (.s 50) none)⟩,
                  ⟨none, some 52, .p (.bin .neq (.s 51) (.c (.int .i64 (-1))))⟩]),
                  (none, [⟨none, some 53, .p (.pick (.s 49) (.s 52) (.c (.bool false)))⟩,
                  ⟨none, some 54, .p (.mv (.s 53))⟩]),
                  (some (54, false), [⟨none, some 55, .p (.fld (.s 7) 1)⟩,
                  ⟨none, some 56, .r (.ld (.s 55) none)⟩,
                  ⟨none, some 57, .p (.bin .neq (.s 56) (.c (.int .u32 0)))⟩,
                  ⟨none, some 58, .p (.mv (.s 57))⟩]),
                  (some (58, true), [⟨none, some 59, .p (.fld (.s 7) 2)⟩,
                  ⟨none, some 60, .r (.ld (.s 59) none)⟩,
                  ⟨none, some 61, .p (.bin .lss (.s 60) (.c (.int .i64 0)))⟩,
                  ⟨none, some 62, .p (.mv (.s 61))⟩]),
                  (some (62, false), [⟨none, some 63, .p (.fld (.s 7) 2)⟩,
                  ⟨none, some 64, .r (.ld (.s 63) none)⟩,
                  ⟨none, some 65, .p (.bin .gtr (.s 64) (.c (.int .i64 31)))⟩]),
                  (some (58, true), [⟨none, some 66, .p (.pick (.s 62) (.c (.bool true)) (.s 65))⟩,
                  ⟨none, some 67, .p (.mv (.s 66))⟩]),
                  (some (67, false), [⟨none, some 68, .p (.fld (.s 7) 1)⟩,
                  ⟨none, some 69, .r (.ld (.s 68) none)⟩,
                  ⟨none, some 70, .p (.fld (.s 7) 2)⟩,
                  ⟨none, some 71, .r (.ld (.s 70) none)⟩,
                  ⟨none, some 72, .e (.call (.c (.func (.func 29) ⟨[]⟩ ⟨[]⟩)) [.s 69, .s 71])⟩,
                  ⟨none, some 73, .p (.un .not (.s 72))⟩]),
                  (some (58, true), [⟨none, some 74, .p (.pick (.s 67) (.c (.bool true)) (.s 73))⟩]),
                  (some (54, false), [⟨none, some 75, .p (.pick (.s 58) (.s 74) (.c (.bool false)))⟩]),
                  (none, [⟨none, some 76, .p (.pick (.s 54) (.c (.bool true)) (.s 75))⟩])] (.one (.tst (.one (.tst (.tst (.tst (.one (.tst (.one (.one (.one .nil))) (.one (.one (.one .nil))))) (.one (.one (.one (.one (.one .nil)))))) (.one (.one (.one (.one (.one (.one .nil))))))) (.one (.one (.one (.one (.one (.one (.one .nil))))))))) (.one (.one (.tst (.tst (.one (.tst (.one (.one (.one .nil))) (.one (.one (.one .nil))))) (.one (.one (.one (.one (.one .nil)))))) (.one (.one (.one (.one (.one (.one .nil))))))))))))
              (.cond (.s 76)
                (.seq
                  (.ops [
                      (none, [⟨none, some 8, .p (.mv (.c (.int .i64 28)))⟩])] (.one .nil))
                  .ret)
                .skip))
            (.seq
              (.ops [
                  (none, [⟨none, some 8, .p (.mv (.c (.int .i64 0)))⟩])] (.one .nil))
              .ret))))))
theorem cfn30 : cfn Try.prog 30 = some ⟨77, 7, d30.erase, [(.s 8, none)]⟩ := by kernel_rfl
theorem ok30 : d30.ok 77 7 = true := by kernel_rfl
noncomputable def F30 (a0 a1 a2 a3 : Value) (H : Heap) (nx : Nat) (k : EP) : Prop :=
  dBox a3 fun tc_1 => wNew (.cells tc_1 0) .ptr H nx fun t7_2 H1 nx1 =>
  wJoin (fun tj_3 =>
    wFld t7_2 0 fun t11_5 =>
    wLd t11_5 none H1 fun t12_6 =>
    wBin .neq t12_6 a2 fun t14_7 =>
    wGuard false t14_7 (
      wFld t7_2 1 fun t16_8 =>
      wLd t16_8 none H1 fun t17_9 =>
      wCall Try.prog 29 [t17_9, a2] H1 nx1 fun t19_10 H3 nx3 =>
      tj_3 [t19_10] H3 nx3) (
      tj_3 [(.bool true)] H1 nx1)) (fun tL_4 H2 nx2 =>
    wIf (tL_4.getD 0 undef) (
      forceV (.int .i64 1) fun tv_11 => k tv_11 H2 nx2) (
      wLoop (fun tih_12 tL_13 H4 nx4 =>
        wBin .lss (tL_13.getD 0 undef) (.int .i64 32) fun t23_14 =>
        wIf t23_14 (
          wFld t7_2 1 fun t26_15 =>
          wLd t26_15 none H4 fun t27_16 =>
          wCall Try.prog 29 [t27_16, (tL_13.getD 0 undef)] H4 nx4 fun t29_17 H5 nx5 =>
          wIf t29_17 (
            forceV (.int .i64 1) fun tv_18 => k tv_18 H5 nx5) (
            wBin .add (tL_13.getD 0 undef) (.int .i64 1) fun t25_19 =>
            tih_12 [t25_19] H5 nx5)) (
          wBin .add a2 (.int .i64 1) fun t31_20 =>
          wLoop (fun tih_21 tL_22 H6 nx6 =>
            wJoin (fun tj_23 =>
              wBin .lss (tL_22.getD 0 undef) a0 fun t34_25 =>
              wGuard true t34_25 (
                wBin .lss a2 a1 fun t38_26 =>
                tj_23 [t38_26] H6 nx6) (
                tj_23 [(.bool false)] H6 nx6)) (fun tL_24 H7 nx7 =>
              wIf (tL_24.getD 0 undef) (
                wFld t7_2 1 fun t42_27 =>
                wLd t42_27 none H7 fun t43_28 =>
                wCall Try.prog 29 [t43_28, (tL_22.getD 0 undef)] H7 nx7 fun t45_29 H8 nx8 =>
                wIf t45_29 (
                  forceV (.int .i64 16) fun tv_30 => k tv_30 H8 nx8) (
                  wBin .add (tL_22.getD 0 undef) (.int .i64 1) fun t41_31 =>
                  tih_21 [t41_31] H8 nx8)) (
                wJoin (fun tj_32 =>
                  wFld t7_2 1 fun t46_34 =>
                  wLd t46_34 none H7 fun t47_35 =>
                  wBin .eql t47_35 (.int .u32 0) fun t48_36 =>
                  wGuard true t48_36 (
                    wFld t7_2 2 fun t50_37 =>
                    wLd t50_37 none H7 fun t51_38 =>
                    wBin .neq t51_38 (.int .i64 (-1)) fun t52_39 =>
                    wGuard false t52_39 (
                      wFld t7_2 1 fun t55_40 =>
                      wLd t55_40 none H7 fun t56_41 =>
                      wBin .neq t56_41 (.int .u32 0) fun t57_42 =>
                      wGuard true t57_42 (
                        wFld t7_2 2 fun t59_43 =>
                        wLd t59_43 none H7 fun t60_44 =>
                        wBin .lss t60_44 (.int .i64 0) fun t61_45 =>
                        wGuard false t61_45 (
                          wFld t7_2 2 fun t63_46 =>
                          wLd t63_46 none H7 fun t64_47 =>
                          wBin .gtr t64_47 (.int .i64 31) fun t65_48 =>
                            wGuard false t65_48 (
                              wFld t7_2 1 fun t68_49 =>
                              wLd t68_49 none H7 fun t69_50 =>
                              wFld t7_2 2 fun t70_51 =>
                              wLd t70_51 none H7 fun t71_52 =>
                              wCall Try.prog 29 [t69_50, t71_52] H7 nx7 fun t72_53 H10 nx10 =>
                              wUn .not t72_53 fun t73_54 =>
                                  tj_32 [t73_54] H10 nx10) (
                                  tj_32 [(.bool true)] H7 nx7)) (
                                  tj_32 [(.bool true)] H7 nx7)) (
                                  tj_32 [(.bool false)] H7 nx7)) (
                                  tj_32 [(.bool true)] H7 nx7)) (
                      wFld t7_2 1 fun t55_55 =>
                      wLd t55_55 none H7 fun t56_56 =>
                      wBin .neq t56_56 (.int .u32 0) fun t57_57 =>
                      wGuard true t57_57 (
                        wFld t7_2 2 fun t59_58 =>
                        wLd t59_58 none H7 fun t60_59 =>
                        wBin .lss t60_59 (.int .i64 0) fun t61_60 =>
                        wGuard false t61_60 (
                          wFld t7_2 2 fun t63_61 =>
                          wLd t63_61 none H7 fun t64_62 =>
                          wBin .gtr t64_62 (.int .i64 31) fun t65_63 =>
                            wGuard false t65_63 (
                              wFld t7_2 1 fun t68_64 =>
                              wLd t68_64 none H7 fun t69_65 =>
                              wFld t7_2 2 fun t70_66 =>
                              wLd t70_66 none H7 fun t71_67 =>
                              wCall Try.prog 29 [t69_65, t71_67] H7 nx7 fun t72_68 H11 nx11 =>
                              wUn .not t72_68 fun t73_69 =>
                                  tj_32 [t73_69] H11 nx11) (
                                  tj_32 [(.bool true)] H7 nx7)) (
                                  tj_32 [(.bool true)] H7 nx7)) (
                                  tj_32 [(.bool false)] H7 nx7))) (fun tL_33 H9 nx9 =>
                  wIf (tL_33.getD 0 undef) (
                    forceV (.int .i64 28) fun tv_70 => k tv_70 H9 nx9) (
                    forceV (.int .i64 0) fun tv_71 => k tv_71 H9 nx9))))) [t31_20] H4 nx4)) [a0] H2 nx2))
theorem eq30 (a0 a1 a2 a3 : Value) (H : Heap) (nx : Nat) (k : EP) : wBody Try.prog 77 7 d30 [(.s 8, none)] [a0, a1, a2, a3] H nx k = F30 a0 a1 a2 a3 H nx k := by kernel_rfl
theorem spec30 {a0 a1 a2 a3 : Value} {H : Heap} {nx : Nat} {k : EP} (h : F30 a0 a1 a2 a3 H nx k) : Ans Try.prog 30 [a0, a1, a2, a3] H nx k :=
  spec_of_body mixed namesOK cfn30 ok30 (by simp) ((eq30 a0 a1 a2 a3 H nx k).symm ▸ h)

/-! 32: ordinal/ordinalref30.Set -/
def d32 : D :=
  (.seq
    (.ops [
        (none, [⟨none, some 1, .a (.box (.s 0))⟩,
        ⟨none, some 2, .p (.mv (.c (.int .u32 0)))⟩])] (.one .nil))
    (.seq
      (.draw [0, 1, 0, 4, 12, 31, 63] [
          (none, [⟨none, some 3, .p (.fld (.s 1) 1)⟩,
          ⟨none, some 4, .r (.ld (.s 3) none)⟩,
          ⟨none, some 5, .p (.fld (.s 1) 0)⟩,
          ⟨none, some 6, .r (.ld (.s 5) none)⟩,
          ⟨none, some 7, .p (.bin .shl (.c (.int .u32 1)) (.s 6))⟩,
          ⟨none, some 8, .p (.bin .or (.s 4) (.s 7))⟩,
          ⟨none, some 2, .p (.mv (.s 8))⟩])] (.one .nil))
      .ret))
theorem cfn32 : cfn Try.prog 32 = some ⟨9, 4, d32.erase, [(.s 2, none)]⟩ := by kernel_rfl
theorem ok32 : d32.ok 9 4 = true := by kernel_rfl
noncomputable def F32 (a0 : Value) (H : Heap) (nx : Nat) (k : EP) : Prop :=
  dBox a0 fun tc_1 => wNew (.cells tc_1 0) .ptr H nx fun t1_2 H1 nx1 =>
  forceN (nx1 + 7) fun nx2 =>
  wFld t1_2 1 fun t3_3 =>
  wLd t3_3 none H1 fun t4_4 =>
  wFld t1_2 0 fun t5_5 =>
  wLd t5_5 none H1 fun t6_6 =>
  wBin .shl (.int .u32 1) t6_6 fun t7_7 =>
  wBin .or t4_4 t7_7 fun t8_8 =>
  (((((wLd t5_5 none H1 fun tq_10 => tq_10 = t6_6) ∧ True) ∧ (((wLd t3_3 none H1 fun tq_9 => tq_9 = t4_4) ∧ True) ∧ True))) ∧ (
    forceV t8_8 fun tv_11 => k tv_11 H1 nx2)) ∨ False
theorem eq32 (a0 : Value) (H : Heap) (nx : Nat) (k : EP) : wBody Try.prog 9 4 d32 [(.s 2, none)] [a0] H nx k = F32 a0 H nx k := by kernel_rfl
theorem spec32 {a0 : Value} {H : Heap} {nx : Nat} {k : EP} (h : F32 a0 H nx k) : Ans Try.prog 32 [a0] H nx k :=
  spec_of_body mixed namesOK cfn32 ok32 (by simp) ((eq32 a0 H nx k).symm ▸ h)

/-! 11: ordinal/ordinalref30.Check -/
def d11 : D :=
  (.seq
    (.ops [
        (none, [⟨none, some 3, .a (.box (.s 0))⟩,
        ⟨none, some 6, .p (.mv (.c (.int .i64 0)))⟩])] (.one .nil))
    (.seq
      (.seq
        (.ops [
            (none, [⟨none, some 17, .p (.mv (.s 2))⟩,
            ⟨none, some 18, .r (.len (.s 17) 0)⟩,
            ⟨none, some 19, .p (.fld (.s 3) 0)⟩,
            ⟨none, some 20, .r (.ld (.s 19) none)⟩,
            ⟨none, some 21, .p (.bin .neq (.s 18) (.s 20))⟩])] (.one .nil))
        (.cond (.s 21)
          (.seq
            (.ops [
                (none, [⟨none, some 6, .p (.mv (.c (.int .i64 6)))⟩])] (.one .nil))
            .ret)
          .skip))
      (.seq
        (.seq
          (.ops [
              (none, [⟨none, some 7, .p (.mv (.c (.int .i64 0)))⟩])] (.one .nil))
          (.block 0
            (.loop [7] [6, 8, 22, 23, 24, 25, 26, 27, 28, 29, 30, 31, 32, 33, 34, 35, 36, 37, 38, 39]
              (.seq
                (.seq
                  (.ops [
                      (none, [⟨none, some 22, .p (.mv (.s 7))⟩,
                      ⟨none, some 23, .p (.fld (.s 3) 0)⟩,
                      ⟨none, some 24, .r (.ld (.s 23) none)⟩,
                      ⟨none, some 25, .p (.bin .lss (.s 22) (.s 24))⟩])] (.one .nil))
                  (.cond (.s 25)
                    .skip
                    (.exit 0)))
                (.seq
                  (.block 1
                    (.seq
                      (.draw [0, 1, 0, 0, 0, 0, 48, 112, 255, 511] [
                          (none, [⟨none, some 28, .p (.fld (.s 3) 0)⟩,
                          ⟨none, some 29, .r (.ld (.s 28) none)⟩,
                          ⟨none, some 30, .p (.mv (.s 1))⟩,
                          ⟨none, some 31, .p (.mv (.s 7))⟩,
                          ⟨none, some 32, .p (.mv (.s 2))⟩,
                          ⟨none, some 33, .p (.mv (.s 7))⟩,
                          ⟨none, some 34, .p (.idx (.s 32) (.s 33) none 3)⟩,
                          ⟨none, some 35, .r (.ld (.s 34) (some 3))⟩,
                          ⟨none, some 36, .e (.call (.c (.func (.func 30) ⟨[]⟩ ⟨[]⟩)) [.s 29, .s 30, .s 31, .s 35])⟩,
                          ⟨none, some 8, .p (.mv (.s 36))⟩])] (.one .nil))
                      (.seq
                        (.ops [
                            (none, [⟨none, some 37, .p (.mv (.s 8))⟩,
                            ⟨none, some 38, .p (.bin .neq (.s 37) (.c (.int .i64 0)))⟩])] (.one .nil))
                        (.cond (.s 38)
                          (.seq
                            (.ops [
                                (none, [⟨none, some 39, .p (.mv (.s 8))⟩,
                                ⟨none, some 6, .p (.mv (.s 39))⟩])] (.one .nil))
                            .ret)
                          .skip))))
                  (.ops [
                      (none, [⟨none, some 26, .p (.mv (.s 7))⟩,
                      ⟨none, some 27, .p (.bin .add (.s 26) (.c (.int .i64 1)))⟩,
                      ⟨none, some 7, .p (.mv (.s 27))⟩])] (.one .nil)))))))
        (.seq
          (.seq
            (.ops [
                (none, [⟨none, some 9, .p (.mv (.c (.int .i64 0)))⟩])] (.one .nil))
            (.block 2
              (.loop [9] [6, 10, 11, 40, 41, 42, 43, 44, 45, 46, 47, 48, 49, 50, 51, 52, 53, 54, 55, 56, 57, 58, 59, 60, 61, 62, 63]
                (.seq
                  (.seq
                    (.ops [
                        (none, [⟨none, some 40, .p (.mv (.s 9))⟩,
                        ⟨none, some 41, .p (.fld (.s 3) 0)⟩,
                        ⟨none, some 42, .r (.ld (.s 41) none)⟩,
                        ⟨none, some 43, .p (.bin .lss (.s 40) (.s 42))⟩])] (.one .nil))
                    (.cond (.s 43)
                      .skip
                      (.exit 2)))
                  (.seq
                    (.block 3
                      (.seq
                        (.ops [
                            (none, [⟨none, some 46, .p (.mv (.s 9))⟩,
                            ⟨none, some 10, .p (.mv (.s 46))⟩])] (.one .nil))
                        (.seq
                          (.seq
                            (.ops [
                                (none, [⟨none, some 11, .p (.mv (.c (.int .i64 0)))⟩])] (.one .nil))
                            (.block 4
                              (.loop [10, 11] [47, 48, 49, 50, 51, 52, 53, 54, 55, 56, 57, 58, 59, 60, 61]
                                (.seq
                                  (.join [54] [47, 48, 49, 50, 51, 52, 53]
                                    (.ops [
                                        (none, [⟨none, some 47, .p (.mv (.s 11))⟩,
                                        ⟨none, some 48, .p (.fld (.s 3) 0)⟩,
                                        ⟨none, some 49, .r (.ld (.s 48) none)⟩,
                                        ⟨none, some 50, .p (.bin .leq (.s 47) (.s 49))⟩,
                                        ⟨none, some 51, .p (.mv (.s 50))⟩]),
                                        (some (51, true), [⟨none, some 52, .p (.mv (.s 10))⟩,
                                        ⟨none, some 53, .p (.bin .geq (.s 52) (.c (.int .i64 0)))⟩]),
                                        (none, [⟨none, some 54, .p (.pick (.s 51) (.s 53) (.c (.bool false)))⟩])] (.one (.tst (.one .nil) (.one .nil))))
                                    (.cond (.s 54)
                                      .skip
                                      (.exit 4)))
                                  (.seq
                                    (.block 5
                                      (.ops [
                                          (none, [⟨none, some 57, .p (.mv (.s 2))⟩,
                                          ⟨none, some 58, .p (.mv (.s 10))⟩,
                                          ⟨none, some 59, .p (.idx (.s 57) (.s 58) none 3)⟩,
                                          ⟨none, some 60, .p (.fld (.s 59) 2)⟩,
                                          ⟨none, some 61, .r (.ld (.s 60) none)⟩,
                                          ⟨none, some 10, .p (.mv (.s 61))⟩])] (.one .nil)))
                                    (.ops [
                                        (none, [⟨none, some 55, .p (.mv (.s 11))⟩,
                                        ⟨none, some 56, .p (.bin .add (.s 55) (.c (.int .i64 1)))⟩,
                                        ⟨none, some 11, .p (.mv (.s 56))⟩])] (.one .nil)))))))
                          (.seq
                            (.ops [
                                (none, [⟨none, some 62, .p (.mv (.s 10))⟩,
                                ⟨none, some 63, .p (.bin .geq (.s 62) (.c (.int .i64 0)))⟩])] (.one .nil))
                            (.cond (.s 63)
                              (.seq
                                (.ops [
                                    (none, [⟨none, some 6, .p (.mv (.c (.int .i64 16)))⟩])] (.one .nil))
                                .ret)
                              .skip)))))
                    (.ops [
                        (none, [⟨none, some 44, .p (.mv (.s 9))⟩,
                        ⟨none, some 45, .p (.bin .add (.s 44) (.c (.int .i64 1)))⟩,
                        ⟨none, some 9, .p (.mv (.s 45))⟩])] (.one .nil)))))))
          (.seq
            (.seq
              (.ops [
                  (none, [⟨none, some 12, .p (.mv (.c (.int .i64 0)))⟩])] (.one .nil))
              (.block 6
                (.loop [12] [6, 13, 64, 65, 66, 67, 68, 69, 70, 71, 72, 73, 74, 75, 76, 77, 78, 79, 80, 81, 82, 83, 84, 85, 86, 87, 88, 89, 90]
                  (.seq
                    (.seq
                      (.ops [
                          (none, [⟨none, some 64, .p (.mv (.s 12))⟩,
                          ⟨none, some 65, .p (.fld (.s 3) 0)⟩,
                          ⟨none, some 66, .r (.ld (.s 65) none)⟩,
                          ⟨none, some 67, .p (.bin .lss (.s 64) (.s 66))⟩])] (.one .nil))
                      (.cond (.s 67)
                        .skip
                        (.exit 6)))
                    (.seq
                      (.block 7
                        (.seq
                          (.ops [
                              (none, [⟨none, some 70, .p (.mv (.s 2))⟩,
                              ⟨none, some 71, .p (.mv (.s 12))⟩,
                              ⟨none, some 72, .p (.idx (.s 70) (.s 71) none 3)⟩,
                              ⟨none, some 73, .p (.fld (.s 72) 2)⟩,
                              ⟨none, some 74, .r (.ld (.s 73) none)⟩,
                              ⟨none, some 13, .p (.mv (.s 74))⟩])] (.one .nil))
                          (.join [90] [75, 76, 77, 78, 79, 80, 81, 82, 83, 84, 85, 86, 87, 88, 89]
                            (.draw [0, 1, 3, 7, 7, 31, 63, 127, 7, 7, 775, 1799, 3847, 8191, 16383, 32767] [
                                (none, [⟨none, some 75, .p (.mv (.s 13))⟩,
                                ⟨none, some 76, .p (.bin .geq (.s 75) (.c (.int .i64 0)))⟩,
                                ⟨none, some 77, .p (.mv (.s 76))⟩]),
                                (some (77, true), [⟨none, some 78, .p (.mv (.s 2))⟩,
                                ⟨none, some 79, .p (.mv (.s 13))⟩,
                                ⟨none, some 80, .p (.idx (.s 78) (.s 79) none 3)⟩,
                                ⟨none, some 81, .r (.ld (.s 80) (some 3))⟩,
                                ⟨none, some 82, .e (.call (.c (.func (.func 32) ⟨[]⟩ ⟨[]⟩)) [.s 81])⟩,
                                ⟨none, some 83, .p (.mv (.s 2))⟩,
                                ⟨none, some 84, .p (.mv (.s 12))⟩,
                                ⟨none, some 85, .p (.idx (.s 83) (.s 84) none 3)⟩,
                                ⟨none, some 86, .p (.fld (.s 85) 1)⟩,
                                ⟨none, some 87, .r (.ld (.s 86) none)⟩,
                                ⟨none, some 88, .e (.call (.c (.func (.func 31) ⟨[]⟩ ⟨[]⟩)) [.s 82, .s 87])⟩,
                                ⟨none, some 89, .p (.un .not (.s 88))⟩]),
                                (none, [⟨none, some 90, .p (.pick (.s 77) (.s 89) (.c (.bool false)))⟩])] (.one (.tst (.one .nil) (.one .nil))))
                            (.cond (.s 90)
                              (.seq
                                (.ops [
                                    (none, [⟨none, some 6, .p (.mv (.c (.int .i64 28)))⟩])] (.one .nil))
                                .ret)
                              .skip))))
                      (.ops [
                          (none, [⟨none, some 68, .p (.mv (.s 12))⟩,
                          ⟨none, some 69, .p (.bin .add (.s 68) (.c (.int .i64 1)))⟩,
                          ⟨none, some 12, .p (.mv (.s 69))⟩])] (.one .nil)))))))
            (.seq
              (.seq
                (.ops [
                    (none, [⟨none, some 14, .p (.mv (.c (.int .i64 0)))⟩])] (.one .nil))
                (.block 8
                  (.loop [14] [6, 15, 16, 91, 92, 93, 94, 95, 96, 97, 98, 99, 100, 101, 102, 103, 104, 105, 106, 107, 108, 109, 110, 111, 112, 113, 114, 115, 116, 117, 118, 119, 120, 121, 122, 123, 124, 125]
                    (.seq
                      (.seq
                        (.ops [
                            (none, [⟨none, some 91, .p (.mv (.s 14))⟩,
                            ⟨none, some 92, .p (.fld (.s 3) 1)⟩,
                            ⟨none, some 93, .r (.ld (.s 92) none)⟩,
                            ⟨none, some 94, .r (.len (.s 93) 0)⟩,
                            ⟨none, some 95, .p (.bin .lss (.s 91) (.s 94))⟩])] (.one .nil))
                        (.cond (.s 95)
                          .skip
                          (.exit 8)))
                      (.seq
                        (.block 9
                          (.seq
                            (.ops [
                                (none, [⟨none, some 98, .p (.fld (.s 3) 1)⟩,
                                ⟨none, some 99, .r (.ld (.s 98) none)⟩,
                                ⟨none, some 100, .p (.mv (.s 14))⟩,
                                ⟨none, some 101, .p (.idx (.s 99) (.s 100) none 1)⟩,
                                ⟨none, some 102, .r (.ld (.s 101) none)⟩,
                                ⟨none, some 103, .p (.bin .eql (.s 102) (.c (.int .u32 0)))⟩,
                                ⟨none, some 15, .p (.mv (.s 103))⟩])] (.one .nil))
                            (.seq
                              (.seq
                                (.ops [
                                    (none, [⟨none, some 16, .p (.mv (.c (.int .i64 0)))⟩])] (.one .nil))
                                (.block 10
                                  (.loop [15, 16] [104, 105, 106, 107, 108, 109, 110, 111, 112, 113, 114, 115, 116, 117, 118, 119, 120, 121, 122, 123]
                                    (.seq
                                      (.seq
                                        (.ops [
                                            (none, [⟨none, some 104, .p (.mv (.s 16))⟩,
                                            ⟨none, some 105, .p (.fld (.s 3) 0)⟩,
                                            ⟨none, some 106, .r (.ld (.s 105) none)⟩,
                                            ⟨none, some 107, .p (.bin .lss (.s 104) (.s 106))⟩])] (.one .nil))
                                        (.cond (.s 107)
                                          .skip
                                          (.exit 10)))
                                      (.join [15] [110, 111, 112, 113, 114, 115, 116, 117, 118, 119, 120, 121, 122, 123]
                                        (.block 11
                                          (.draw [0, 1, 3, 3, 15, 31, 63, 3, 131, 3, 899, 1923, 4095, 8191, 16383] [
                                              (none, [⟨none, some 110, .p (.mv (.s 15))⟩,
                                              ⟨none, some 111, .p (.mv (.s 110))⟩]),
                                              (some (111, false), [⟨none, some 112, .p (.mv (.s 2))⟩,
                                              ⟨none, some 113, .p (.mv (.s 16))⟩,
                                              ⟨none, some 114, .p (.idx (.s 112) (.s 113) none 3)⟩,
                                              ⟨none, some 115, .r (.ld (.s 114) (some 3))⟩,
                                              ⟨none, some 116, .e (.call (.c (.func (.func 32) ⟨[]⟩ ⟨[]⟩)) [.s 115])⟩,
                                              ⟨none, some 117, .p (.fld (.s 3) 1)⟩,
                                              ⟨none, some 118, .r (.ld (.s 117) none)⟩,
                                              ⟨none, some 119, .p (.mv (.s 14))⟩,
                                              ⟨none, some 120, .p (.idx (.s 118) (.s 119) none 1)⟩,
                                              ⟨none, some 121, .r (.ld (.s 120) none)⟩,
                                              ⟨none, some 122, .e (.call (.c (.func (.func 31) ⟨[]⟩ ⟨[]⟩)) [.s 116, .s 121])⟩]),
                                              (none, [⟨none, some 123, .p (.pick (.s 111) (.c (.bool true)) (.s 122))⟩,
                                              ⟨none, some 15, .p (.mv (.s 123))⟩])] (.one (.tst (.one .nil) (.one .nil)))))
                                        (.ops [
                                            (none, [⟨none, some 108, .p (.mv (.s 16))⟩,
                                            ⟨none, some 109, .p (.bin .add (.s 108) (.c (.int .i64 1)))⟩,
                                            ⟨none, some 16, .p (.mv (.s 109))⟩])] (.one .nil)))))))
                              (.seq
                                (.ops [
                                    (none, [⟨none, some 124, .p (.mv (.s 15))⟩,
                                    ⟨none, some 125, .p (.un .not (.s 124))⟩])] (.one .nil))
                                (.cond (.s 125)
                                  (.seq
                                    (.ops [
                                        (none, [⟨none, some 6, .p (.mv (.c (.int .i64 9)))⟩])] (.one .nil))
                                    .ret)
                                  .skip)))))
                        (.ops [
                            (none, [⟨none, some 96, .p (.mv (.s 14))⟩,
                            ⟨none, some 97, .p (.bin .add (.s 96) (.c (.int .i64 1)))⟩,
                            ⟨none, some 14, .p (.mv (.s 97))⟩])] (.one .nil)))))))
              (.seq
                (.ops [
                    (none, [⟨none, some 6, .p (.mv (.c (.int .i64 0)))⟩])] (.one .nil))
                .ret)))))))
theorem cfn11 : cfn Try.prog 11 = some ⟨126, 7, d11.erase, [(.s 6, none)]⟩ := by kernel_rfl
theorem ok11 : d11.ok 126 7 = true := by kernel_rfl
noncomputable def F11 (a0 a1 a2 : Value) (H : Heap) (nx : Nat) (k : EP) : Prop :=
  dBox a0 fun tc_1 => wNew (.cells tc_1 0) .ptr H nx fun t3_2 H1 nx1 =>
  wLen a2 0 H1 fun t18_3 =>
  wFld t3_2 0 fun t19_4 =>
  wLd t19_4 none H1 fun t20_5 =>
  wBin .neq t18_3 t20_5 fun t21_6 =>
  wIf t21_6 (
    forceV (.int .i64 6) fun tv_7 => k tv_7 H1 nx1) (
    wLoop (fun tih_8 tL_9 H2 nx2 =>
      wFld t3_2 0 fun t23_10 =>
      wLd t23_10 none H2 fun t24_11 =>
      wBin .lss (tL_9.getD 0 undef) t24_11 fun t25_12 =>
      wIf t25_12 (
        forceN (nx2 + 10) fun nx3 =>
        wFld t3_2 0 fun t28_13 =>
        wLd t28_13 none H2 fun t29_14 =>
        wIdx a2 (tL_9.getD 0 undef) none 3 fun t34_15 =>
        wLd t34_15 (some 3) H2 fun t35_16 =>
        wCall Try.prog 30 [t29_14, a1, (tL_9.getD 0 undef), t35_16] H2 nx3 fun t36_17 H4 nx4 =>
        (((((True) ∧ ((wLd t34_15 (some 3) H2 fun tq_19 => tq_19 = t35_16) ∧ True)) ∧ (((True) ∧ ((wLd t28_13 none H2 fun tq_18 => tq_18 = t29_14) ∧ True)) ∧ True))) ∧ (
          wBin .neq t36_17 (.int .i64 0) fun t38_20 =>
          wIf t38_20 (
            forceV t36_17 fun tv_21 => k tv_21 H4 nx4) (
            wBin .add (tL_9.getD 0 undef) (.int .i64 1) fun t27_22 =>
            tih_8 [t27_22] H4 nx4))) ∨ False) (
        wLoop (fun tih_23 tL_24 H5 nx5 =>
          wFld t3_2 0 fun t41_25 =>
          wLd t41_25 none H5 fun t42_26 =>
          wBin .lss (tL_24.getD 0 undef) t42_26 fun t43_27 =>
          wIf t43_27 (
            wLoop (fun tih_28 tL_29 H6 nx6 =>
              wJoin (fun tj_30 =>
                wFld t3_2 0 fun t48_32 =>
                wLd t48_32 none H6 fun t49_33 =>
                wBin .leq (tL_29.getD 1 undef) t49_33 fun t50_34 =>
                wGuard true t50_34 (
                  wBin .geq (tL_29.getD 0 undef) (.int .i64 0) fun t53_35 =>
                  tj_30 [t53_35] H6 nx6) (
                  tj_30 [(.bool false)] H6 nx6)) (fun tL_31 H7 nx7 =>
                wIf (tL_31.getD 0 undef) (
                  wIdx a2 (tL_29.getD 0 undef) none 3 fun t59_36 =>
                  wFld t59_36 2 fun t60_37 =>
                  wLd t60_37 none H7 fun t61_38 =>
                  wBin .add (tL_29.getD 1 undef) (.int .i64 1) fun t56_39 =>
                  tih_28 [t61_38, t56_39] H7 nx7) (
                  wBin .geq (tL_29.getD 0 undef) (.int .i64 0) fun t63_40 =>
                  wIf t63_40 (
                    forceV (.int .i64 16) fun tv_41 => k tv_41 H7 nx7) (
                    wBin .add (tL_24.getD 0 undef) (.int .i64 1) fun t45_42 =>
                    tih_23 [t45_42] H7 nx7)))) [(tL_24.getD 0 undef), (.int .i64 0)] H5 nx5) (
            wLoop (fun tih_43 tL_44 H8 nx8 =>
              wFld t3_2 0 fun t65_45 =>
              wLd t65_45 none H8 fun t66_46 =>
              wBin .lss (tL_44.getD 0 undef) t66_46 fun t67_47 =>
              wIf t67_47 (
                wIdx a2 (tL_44.getD 0 undef) none 3 fun t72_48 =>
                wFld t72_48 2 fun t73_49 =>
                wLd t73_49 none H8 fun t74_50 =>
                wJoin (fun tj_51 =>
                  forceN (nx8 + 16) fun nx10 =>
                  wBin .geq t74_50 (.int .i64 0) fun t76_53 =>
                  wGuard true t76_53 (
                    wIdx a2 t74_50 none 3 fun t80_54 =>
                    wLd t80_54 (some 3) H8 fun t81_55 =>
                    wCall Try.prog 32 [t81_55] H8 nx10 fun t82_56 H11 nx11 =>
                    wIdx a2 (tL_44.getD 0 undef) none 3 fun t85_57 =>
                    wFld t85_57 1 fun t86_58 =>
                    wLd t86_58 none H11 fun t87_59 =>
                    wCall Try.prog 31 [t82_56, t87_59] H11 nx11 fun t88_60 H12 nx12 =>
                    wUn .not t88_60 fun t89_61 =>
                    (((((True) ∧ ((wLd t86_58 none H11 fun tq_63 => tq_63 = t87_59) ∧ ((wLd t86_58 none H8 fun tq_64 => tq_64 = t87_59) ∧ True))) ∧ (((True) ∧ ((True) ∧ ((wLd t80_54 (some 3) H8 fun tq_62 => tq_62 = t81_55) ∧ True))) ∧ True))) ∧ (
                      tj_51 [t89_61] H12 nx12)) ∨ False) (
                    ((True) ∧ (
                      tj_51 [(.bool false)] H8 nx10)) ∨ False)) (fun tL_52 H9 nx9 =>
                  wIf (tL_52.getD 0 undef) (
                    forceV (.int .i64 28) fun tv_65 => k tv_65 H9 nx9) (
                    wBin .add (tL_44.getD 0 undef) (.int .i64 1) fun t69_66 =>
                    tih_43 [t69_66] H9 nx9))) (
                wLoop (fun tih_67 tL_68 H13 nx13 =>
                  wFld t3_2 1 fun t92_69 =>
                  wLd t92_69 none H13 fun t93_70 =>
                  wLen t93_70 0 H13 fun t94_71 =>
                  wBin .lss (tL_68.getD 0 undef) t94_71 fun t95_72 =>
                  wIf t95_72 (
                    wFld t3_2 1 fun t98_73 =>
                    wLd t98_73 none H13 fun t99_74 =>
                    wIdx t99_74 (tL_68.getD 0 undef) none 1 fun t101_75 =>
                    wLd t101_75 none H13 fun t102_76 =>
                    wBin .eql t102_76 (.int .u32 0) fun t103_77 =>
                    wLoop (fun tih_78 tL_79 H14 nx14 =>
                      wFld t3_2 0 fun t105_80 =>
                      wLd t105_80 none H14 fun t106_81 =>
                      wBin .lss (tL_79.getD 1 undef) t106_81 fun t107_82 =>
                      wIf t107_82 (
                        wJoin (fun tj_83 =>
                          forceN (nx14 + 15) fun nx16 =>
                          wGuard false (tL_79.getD 0 undef) (
                            wIdx a2 (tL_79.getD 1 undef) none 3 fun t114_85 =>
                            wLd t114_85 (some 3) H14 fun t115_86 =>
                            wCall Try.prog 32 [t115_86] H14 nx16 fun t116_87 H17 nx17 =>
                            wFld t3_2 1 fun t117_88 =>
                            wLd t117_88 none H17 fun t118_89 =>
                            wIdx t118_89 (tL_68.getD 0 undef) none 1 fun t120_90 =>
                            wLd t120_90 none H17 fun t121_91 =>
                            wCall Try.prog 31 [t116_87, t121_91] H17 nx17 fun t122_92 H18 nx18 =>
                            (((((True) ∧ ((wLd t120_90 none H17 fun tq_96 => tq_96 = t121_91) ∧ ((wLd t120_90 none H14 fun tq_97 => tq_97 = t121_91) ∧ True))) ∧ (((True) ∧ ((wLd t117_88 none H17 fun tq_94 => tq_94 = t118_89) ∧ ((wLd t117_88 none H14 fun tq_95 => tq_95 = t118_89) ∧ True))) ∧ (((True) ∧ ((True) ∧ ((wLd t114_85 (some 3) H14 fun tq_93 => tq_93 = t115_86) ∧ True))) ∧ True)))) ∧ (
                              tj_83 [t122_92] H18 nx18)) ∨ False) (
                            ((True) ∧ (
                              tj_83 [(.bool true)] H14 nx16)) ∨ False)) (fun tL_84 H15 nx15 =>
                          wBin .add (tL_79.getD 1 undef) (.int .i64 1) fun t109_98 =>
                          tih_78 [(tL_84.getD 0 undef), t109_98] H15 nx15)) (
                        wUn .not (tL_79.getD 0 undef) fun t125_99 =>
                        wIf t125_99 (
                          forceV (.int .i64 9) fun tv_100 => k tv_100 H14 nx14) (
                          wBin .add (tL_68.getD 0 undef) (.int .i64 1) fun t97_101 =>
                          tih_67 [t97_101] H14 nx14))) [t103_77, (.int .i64 0)] H13 nx13) (
                    forceV (.int .i64 0) fun tv_102 => k tv_102 H13 nx13)) [(.int .i64 0)] H8 nx8)) [(.int .i64 0)] H5 nx5)) [(.int .i64 0)] H2 nx2)) [(.int .i64 0)] H1 nx1)
theorem eq11 (a0 a1 a2 : Value) (H : Heap) (nx : Nat) (k : EP) : wBody Try.prog 126 7 d11 [(.s 6, none)] [a0, a1, a2] H nx k = F11 a0 a1 a2 H nx k := by kernel_rfl
theorem spec11 {a0 a1 a2 : Value} {H : Heap} {nx : Nat} {k : EP} (h : F11 a0 a1 a2 H nx k) : Ans Try.prog 11 [a0, a1, a2] H nx k :=
  spec_of_body mixed namesOK cfn11 ok11 (by simp) ((eq11 a0 a1 a2 H nx k).symm ▸ h)

/-! 12: ordinal/ordinallaw30.of -/
def d12 : D :=
  (.seq
    (.ops [
        (none, [⟨none, some 2, .p (.mv (.c (.slice none 0 0)))⟩])] (.one .nil))
    (.seq
      (.ops [
          (none, [⟨none, some 3, .p (.mv (.c (.slice none 0 0)))⟩])] (.one .nil))
      (.seq
        (.seq
          (.ops [
              (none, [⟨none, some 6, .p (.mv (.s 0))⟩,
              ⟨none, some 7, .r (.len (.s 6) 0)⟩,
              ⟨none, some 8, .p (.mv (.c (.int .i64 0)))⟩])] (.one .nil))
          (.block 0
            (.loop [3, 8] [5, 9, 10, 11, 12, 13, 14, 15, 16]
              (.seq
                (.ops [
                    (none, [⟨none, some 9, .p (.bin .lss (.s 8) (.s 7))⟩])] (.one .nil))
                (.seq
                  (.cond (.s 9)
                    .skip
                    (.exit 0))
                  (.seq
                    (.block 1
                      (.seq
                        (.ops [
                            (none, [⟨none, some 10, .p (.idx (.s 6) (.s 8) none 3)⟩,
                            ⟨none, some 11, .r (.ld (.s 10) (some 3))⟩,
                            ⟨none, some 5, .a (.alloc [.int .i64 0, .int .u32 0, .int .i64 0])⟩,
                            ⟨none, none, .e (.st (.s 5) (.s 11) 3)⟩])] (.one .nil))
                        (.ops [
                            (none, [⟨none, some 12, .p (.mv (.s 3))⟩,
                            ⟨none, some 13, .r (.ld (.s 5) (some 3))⟩,
                            ⟨none, some 14, .a (.bsl 1 3 [.int .i64 0, .int .u32 0, .int .i64 0] [(0, .s 13)])⟩,
                            ⟨none, some 15, .e (.app (.s 12) (.s 14) 3 24)⟩,
                            ⟨none, some 3, .p (.mv (.s 15))⟩])] (.one .nil))))
                    (.ops [
                        (none, [⟨none, some 16, .p (.bin .add (.s 8) (.c (.int .i64 1)))⟩,
                        ⟨none, some 8, .p (.mv (.s 16))⟩])] (.one .nil))))))))
        (.seq
          (.ops [
              (none, [⟨none, some 17, .p (.mv (.s 3))⟩,
              ⟨none, some 2, .p (.mv (.s 17))⟩])] (.one .nil))
          .ret))))
theorem cfn12 : cfn Try.prog 12 = some ⟨18, 5, d12.erase, [(.s 2, none)]⟩ := by kernel_rfl
theorem ok12 : d12.ok 18 5 = true := by kernel_rfl
noncomputable def F12 (a0 : Value) (H : Heap) (nx : Nat) (k : EP) : Prop :=
  wLen a0 0 H fun t7_1 =>
  wLoop (fun tih_2 tL_3 H1 nx1 =>
    wBin .lss (tL_3.getD 1 undef) t7_1 fun t9_4 =>
    wIf t9_4 (
      wIdx a0 (tL_3.getD 1 undef) none 3 fun t10_5 =>
      wLd t10_5 (some 3) H1 fun t11_6 =>
      wNew (.cells [.int .i64 0, .int .u32 0, .int .i64 0] 0) .ptr H1 nx1 fun t5_7 H2 nx2 =>
      wSt t5_7 t11_6 3 H2 fun H3 =>
      wLd t5_7 (some 3) H3 fun t13_8 =>
      dBsl 1 3 [.int .i64 0, .int .u32 0, .int .i64 0] [(0, t13_8)] fun tc_9 => wNew (.cells tc_9 0) (.slice 1 1) H3 nx2 fun t14_10 H4 nx4 =>
      wApp (tL_3.getD 0 undef) t14_10 3 24 H4 nx4 fun t15_11 H5 nx5 =>
      wBin .add (tL_3.getD 1 undef) (.int .i64 1) fun t16_12 =>
      tih_2 [t15_11, t16_12] H5 nx5) (
      forceV (tL_3.getD 0 undef) fun tv_13 => k tv_13 H1 nx1)) [(.slice none 0 0), (.int .i64 0)] H nx
theorem eq12 (a0 : Value) (H : Heap) (nx : Nat) (k : EP) : wBody Try.prog 18 5 d12 [(.s 2, none)] [a0] H nx k = F12 a0 H nx k := by kernel_rfl
theorem spec12 {a0 : Value} {H : Heap} {nx : Nat} {k : EP} (h : F12 a0 H nx k) : Ans Try.prog 12 [a0] H nx k :=
  spec_of_body mixed namesOK cfn12 ok12 (by simp) ((eq12 a0 H nx k).symm ▸ h)

/-! 3: ordinal/ordinallaw30.EliminationChecks -/
def d3 : D :=
  (.seq
    (.ops [
        (none, [⟨none, some 3, .a (.box (.s 0))⟩,
        ⟨none, some 6, .p (.mv (.c (.bool false)))⟩])] (.one .nil))
    (.seq
      (.join [17] [9, 10, 11, 12, 13, 14, 15, 16]
        (.ops [
            (none, [⟨none, some 9, .p (.fld (.s 3) 1)⟩,
            ⟨none, some 10, .r (.ld (.s 9) none)⟩,
            ⟨none, some 11, .r (.len (.s 10) 0)⟩,
            ⟨none, some 12, .p (.bin .gtr (.s 11) (.c (.int .i64 70)))⟩,
            ⟨none, some 13, .p (.mv (.s 12))⟩]),
            (some (13, false), [⟨none, some 14, .p (.mv (.s 2))⟩,
            ⟨none, some 15, .r (.len (.s 14) 0)⟩,
            ⟨none, some 16, .p (.bin .gtr (.s 15) (.c (.int .i64 40)))⟩]),
            (none, [⟨none, some 17, .p (.pick (.s 13) (.c (.bool true)) (.s 16))⟩])] (.one (.tst (.one .nil) (.one .nil))))
        (.cond (.s 17)
          (.seq
            (.ops [
                (none, [⟨none, some 18, .e (.call (.c (.func (.func 7) ⟨[]⟩ ⟨[]⟩)) [])⟩,
                ⟨none, some 6, .p (.mv (.s 18))⟩])] (.one .nil))
            .ret)
          .skip))
      (.seq
        (.ops [
            (none, [⟨none, some 19, .r (.ld (.s 3) (some 2))⟩,
            ⟨none, some 20, .p (.mv (.s 1))⟩,
            ⟨none, some 21, .p (.mv (.s 2))⟩,
            ⟨none, some 22, .e (.call (.c (.func (.func 8) ⟨[]⟩ ⟨[]⟩)) [.s 19, .s 20, .s 21])⟩,
            ⟨none, some 7, .p (.mv (.s 22))⟩])] (.one .nil))
        (.seq
          (.ops [
              (none, [⟨none, some 23, .r (.ld (.s 3) (some 2))⟩,
              ⟨none, some 24, .e (.call (.c (.func (.func 10) ⟨[]⟩ ⟨[]⟩)) [.s 23])⟩,
              ⟨none, some 25, .e (.call (.c (.func (.func 9) ⟨[]⟩ ⟨[]⟩)) [.s 24])⟩,
              ⟨none, some 8, .p (.mv (.s 25))⟩])] (.one .nil))
          (.join [8] [26, 27, 28, 29, 30, 31, 32, 33, 34, 35, 36, 37, 38, 39, 40, 41, 42, 43]
            (.block 0
              (.seq
                (.ops [
                    (none, [⟨none, some 33, .p (.mv (.s 8))⟩,
                    ⟨none, some 34, .p (.bin .neq (.s 33) (.c (.int .i64 0)))⟩,
                    ⟨none, some 32, .p (.mv (.s 34))⟩])] (.one .nil))
                (.cond (.s 32)
                  .skip
                  (.join [35] [36, 37, 38, 39, 40, 41, 42, 43]
                    (.ops [
                        (none, [⟨none, some 36, .p (.mv (.s 1))⟩,
                        ⟨none, some 37, .p (.bin .lss (.s 36) (.c (.int .i64 0)))⟩,
                        ⟨none, some 38, .p (.mv (.s 37))⟩]),
                        (some (38, false), [⟨none, some 39, .p (.mv (.s 1))⟩,
                        ⟨none, some 40, .p (.fld (.s 3) 0)⟩,
                        ⟨none, some 41, .r (.ld (.s 40) none)⟩,
                        ⟨none, some 42, .p (.bin .gtr (.s 39) (.s 41))⟩]),
                        (none, [⟨none, some 43, .p (.pick (.s 38) (.c (.bool true)) (.s 42))⟩,
                        ⟨none, some 35, .p (.mv (.s 43))⟩])] (.one (.tst (.one .nil) (.one .nil))))
                    (.cond (.s 35)
                      (.ops [
                          (none, [⟨none, some 8, .p (.mv (.c (.int .i64 3)))⟩])] (.one .nil))
                      (.ops [
                          (none, [⟨none, some 26, .r (.ld (.s 3) (some 2))⟩,
                          ⟨none, some 27, .e (.call (.c (.func (.func 10) ⟨[]⟩ ⟨[]⟩)) [.s 26])⟩,
                          ⟨none, some 28, .p (.mv (.s 1))⟩,
                          ⟨none, some 29, .p (.mv (.s 2))⟩,
                          ⟨none, some 30, .e (.call (.c (.func (.func 12) ⟨[]⟩ ⟨[]⟩)) [.s 29])⟩,
                          ⟨none, some 31, .e (.call (.c (.func (.func 11) ⟨[]⟩ ⟨[]⟩)) [.s 27, .s 28, .s 30])⟩,
                          ⟨none, some 8, .p (.mv (.s 31))⟩])] (.one .nil)))))))
            (.seq
              (.ops [
                  (none, [⟨none, some 44, .e (.call (.c (.func (.func 7) ⟨[]⟩ ⟨[]⟩)) [])⟩,
                  ⟨none, some 45, .p (.mv (.s 44))⟩]),
                  (some (45, true), [⟨none, some 46, .p (.mv (.s 7))⟩,
                  ⟨none, some 47, .p (.mv (.s 8))⟩,
                  ⟨none, some 48, .p (.bin .eql (.s 46) (.s 47))⟩]),
                  (none, [⟨none, some 49, .p (.pick (.s 45) (.s 48) (.c (.bool false)))⟩,
                  ⟨none, some 6, .p (.mv (.s 49))⟩])] (.one (.tst (.one .nil) (.one .nil))))
              .ret))))))
theorem cfn3 : cfn Try.prog 3 = some ⟨50, 6, d3.erase, [(.s 6, none)]⟩ := by kernel_rfl
theorem ok3 : d3.ok 50 6 = true := by kernel_rfl
noncomputable def F3 (a0 a1 a2 : Value) (H : Heap) (nx : Nat) (k : EP) : Prop :=
  dBox a0 fun tc_1 => wNew (.cells tc_1 0) .ptr H nx fun t3_2 H1 nx1 =>
  wJoin (fun tj_3 =>
    wFld t3_2 1 fun t9_5 =>
    wLd t9_5 none H1 fun t10_6 =>
    wLen t10_6 0 H1 fun t11_7 =>
    wBin .gtr t11_7 (.int .i64 70) fun t12_8 =>
    wGuard false t12_8 (
      wLen a2 0 H1 fun t15_9 =>
      wBin .gtr t15_9 (.int .i64 40) fun t16_10 =>
      tj_3 [t16_10] H1 nx1) (
      tj_3 [(.bool true)] H1 nx1)) (fun tL_4 H2 nx2 =>
    wIf (tL_4.getD 0 undef) (
      wCall Try.prog 7 [] H2 nx2 fun t18_11 H3 nx3 =>
      forceV t18_11 fun tv_12 => k tv_12 H3 nx3) (
      wLd t3_2 (some 2) H2 fun t19_13 =>
      wCall Try.prog 8 [t19_13, a1, a2] H2 nx2 fun t22_14 H4 nx4 =>
      wLd t3_2 (some 2) H4 fun t23_15 =>
      wCall Try.prog 10 [t23_15] H4 nx4 fun t24_16 H5 nx5 =>
      wCall Try.prog 9 [t24_16] H5 nx5 fun t25_17 H6 nx6 =>
      wJoin (fun tj_18 =>
        wBin .neq t25_17 (.int .i64 0) fun t34_20 =>
        wIf t34_20 (
          tj_18 [t25_17] H6 nx6) (
          wJoin (fun tj_21 =>
            wBin .lss a1 (.int .i64 0) fun t37_23 =>
            wGuard false t37_23 (
              wFld t3_2 0 fun t40_24 =>
              wLd t40_24 none H6 fun t41_25 =>
              wBin .gtr a1 t41_25 fun t42_26 =>
              tj_21 [t42_26] H6 nx6) (
              tj_21 [(.bool true)] H6 nx6)) (fun tL_22 H8 nx8 =>
            wIf (tL_22.getD 0 undef) (
              tj_18 [(.int .i64 3)] H8 nx8) (
              wLd t3_2 (some 2) H8 fun t26_27 =>
              wCall Try.prog 10 [t26_27] H8 nx8 fun t27_28 H9 nx9 =>
              wCall Try.prog 12 [a2] H9 nx9 fun t30_29 H10 nx10 =>
              wCall Try.prog 11 [t27_28, a1, t30_29] H10 nx10 fun t31_30 H11 nx11 =>
              tj_18 [t31_30] H11 nx11)))) (fun tL_19 H7 nx7 =>
        wCall Try.prog 7 [] H7 nx7 fun t44_31 H12 nx12 =>
        wGuard true t44_31 (
          wBin .eql t22_14 (tL_19.getD 0 undef) fun t48_32 =>
          forceV t48_32 fun tv_33 => k tv_33 H12 nx12) (
          forceV (.bool false) fun tv_34 => k tv_34 H12 nx12))))
theorem eq3 (a0 a1 a2 : Value) (H : Heap) (nx : Nat) (k : EP) : wBody Try.prog 50 6 d3 [(.s 6, none)] [a0, a1, a2] H nx k = F3 a0 a1 a2 H nx k := by kernel_rfl
theorem spec3 {a0 a1 a2 : Value} {H : Heap} {nx : Nat} {k : EP} (h : F3 a0 a1 a2 H nx k) : Ans Try.prog 3 [a0, a1, a2] H nx k :=
  spec_of_body mixed namesOK cfn3 ok3 (by simp) ((eq3 a0 a1 a2 H nx k).symm ▸ h)

end Go.Proofs.Ytaieijjfabbfeaa

set_option linter.unusedSimpArgs false
set_option linter.unusedVariables false
set_option linter.unusedSectionVars false
namespace Go.Proofs.Ytaieijjfabbfeaa

theorem pow_le32 {n : Nat} (h : n ≤ 32) : 2 ^ n ≤ 4294967296 := Nat.le_trans (Nat.pow_le_pow_right (by omega) h) (by decide)
theorem pow_pos2 (n : Nat) : 0 < 2 ^ n := Nat.pow_pos (by omega)

theorem below_eq {n : Nat} (h : n ≤ 32) : IntKind.u64.wrap (IntKind.u64.wrap (2 ^ n) - 1) % 4294967296 = ((2 ^ n - 1 : Nat) : Int) := by
  have h1 := pow_le32 h
  have h2 := pow_pos2 n
  have e : ((2 : Int) ^ n) = ((2 ^ n : Nat) : Int) := by simp
  rw [e]
  generalize 2 ^ n = m at *
  simp only [IntKind.wrap, IntKind.signed, IntKind.bits]
  simp
  omega

theorem has_eq {s n : Nat} (hs : s < 4294967296) : (((s : Int) / 2 ^ min n 32).tmod 2 == 1) = s.testBit n := by
  have e : ((2 : Int) ^ min n 32) = ((2 ^ min n 32 : Nat) : Int) := by simp
  rw [e, ← Int.natCast_ediv]
  have key : s / 2 ^ min n 32 = s / 2 ^ n := by
    by_cases h : n ≤ 32
    · rw [Nat.min_eq_left h]
    · rw [Nat.min_eq_right (by omega)]
      have a1 : s / 2 ^ 32 = 0 := Nat.div_eq_of_lt (by simpa using hs)
      have a2 : s / 2 ^ n = 0 := Nat.div_eq_of_lt (Nat.lt_of_lt_of_le hs (by
        have := Nat.pow_le_pow_right (n := 2) (by omega) (show 32 ≤ n by omega)
        simpa using this))
      rw [a1, a2]
  rw [key, Nat.testBit_eq_decide_div_mod_eq]
  generalize s / 2 ^ n = m
  have e2 : ((m : Int).tmod 2) = ((m % 2 : Nat) : Int) := by
    rw [Int.tmod_eq_emod_of_nonneg (by omega)]; omega
  rw [e2, Bool.eq_iff_iff]
  simp
  omega

/-- Set a holds all vertices of set b, up to k. -/
def subTo (a b k : Nat) : Prop := ∀ v, v < k → b.testBit v = true → a.testBit v = true
instance (a b k : Nat) : Decidable (subTo a b k) := by unfold subTo; exact inferInstance
def subB (a b : Nat) : Bool := decide (subTo a b 32)
theorem subTo_zero (a b : Nat) : subTo a b 0 := fun v h => by omega
theorem subTo_succ {a b k : Nat} (h : subTo a b k) (hk : b.testBit k = false ∨ a.testBit k = true) : subTo a b (k + 1) := by
  intro v hv hb
  by_cases e : v = k
  · subst e; rcases hk with hk | hk
    · rw [hk] at hb; cases hb
    · exact hk
  · exact h v (by omega) hb
theorem subB_yes {a b : Nat} (h : subTo a b 32) : subB a b = true := by simp [subB, h]
theorem subB_no {a b k : Nat} (hk : k < 32) (h1 : b.testBit k = true) (h2 : a.testBit k = false) : subB a b = false := by
  have : ¬ subTo a b 32 := fun h => by have := h k hk h1; rw [h2] at this; cases this
  simp [subB, this]

theorem mask_eq {n : Nat} (hn : n ≤ 32) : 4294967295 - (2 ^ n - 1) = (2 ^ (32 - n) - 1) <<< n := by
  rw [Nat.shiftLeft_eq, Nat.sub_mul, ← Nat.pow_add, Nat.sub_add_cancel hn]
  have := pow_pos2 n
  have := pow_le32 hn
  omega
theorem mask_bit {n i : Nat} (hn : n ≤ 32) : (4294967295 - (2 ^ n - 1)).testBit i = decide (n ≤ i ∧ i < 32) := by
  rw [mask_eq hn, Nat.testBit_shiftLeft, Nat.testBit_two_pow_sub_one, Bool.eq_iff_iff]
  simp
  omega
theorem bit_high {e i : Nat} (he : e < 4294967296) (h : e.testBit i = true) : i < 32 := by
  rcases Nat.lt_or_ge i 32 with g | g
  · exact g
  · have : e < 2 ^ i := Nat.lt_of_lt_of_le he (Nat.pow_le_pow_right (n := 2) (by omega) g)
    rw [Nat.testBit_lt_two_pow this] at h
    cases h
theorem andNot_zero {e n : Nat} (he : e < 4294967296) (hn : n ≤ 32) : e &&& (4294967295 - (2 ^ n - 1)) = 0 ↔ e < 2 ^ n := by
  constructor
  · intro h
    rcases Nat.lt_or_ge e (2 ^ n) with g | g
    · exact g
    · obtain ⟨i, hi, hb⟩ := Nat.exists_ge_and_testBit_of_ge_two_pow g
      have h1 : (e &&& (4294967295 - (2 ^ n - 1))).testBit i = true := by
        rw [Nat.testBit_and, hb, mask_bit hn]; simp; exact ⟨hi, bit_high he hb⟩
      rw [h] at h1; simp at h1
  · intro h
    refine Nat.eq_of_testBit_eq fun i => ?_
    rw [Nat.testBit_and, mask_bit hn]
    by_cases hi : n ≤ i
    · have : e.testBit i = false := Nat.testBit_lt_two_pow (Nat.lt_of_lt_of_le h (Nat.pow_le_pow_right (n := 2) (by omega) hi))
      simp [this]
    · simp; omega
theorem below_lt {n : Nat} (hn : n ≤ 32) : 2 ^ n - 1 < 4294967296 := by have := pow_le32 hn; have := pow_pos2 n; omega
theorem andNot_below {e n : Nat} (he : e < 4294967296) (hn : n ≤ 32) : (bits .andNot .u32 (e : Int) ((2 ^ n - 1 : Nat) : Int) != 0) = decide (2 ^ n ≤ e) := by
  rw [u32_andNot_nat e _ he (below_lt hn), Bool.eq_iff_iff]
  have := andNot_zero he hn
  simp only [bne_iff_ne, ne_eq, decide_eq_true_eq]
  omega
end Go.Proofs.Ytaieijjfabbfeaa

set_option linter.unusedSimpArgs false
set_option linter.unusedVariables false
set_option linter.unusedSectionVars false
namespace Go.Proofs.Ytaieijjfabbfeaa
open Go.Clo

/-- A pure answer. -/
def Pure (v : Value) (H : Heap) (nx : Nat) : EP := fun v' H' nx' => v' = v ∧ H = H' ∧ nx = nx'
theorem below_wrap {n : Nat} (h : n ≤ 32) : IntKind.u32.wrap (IntKind.u64.wrap (IntKind.u64.wrap (1 * 2 ^ min n 64) - 1)) = ((2 ^ n - 1 : Nat) : Int) := by
  have h1 := pow_le32 h
  have h2 := pow_pos2 n
  have e : (1 * (2 : Int) ^ min n 64) = ((2 ^ n : Nat) : Int) := by
    have : min n 64 = n := by omega
    simp [this]
  rw [e]
  generalize 2 ^ n = m at *
  simp only [IntKind.wrap, IntKind.signed, IntKind.bits]
  simp
  omega
theorem below_any {n : Nat} (hn : n ≤ 32) (k : VP) : (wBin .shl (.int .u64 1) (.int .i64 (n : Int)) fun t4 => wBin .sub t4 (.int .u64 1) fun t5 => wConv .u32 t5 k) = k (.int .u32 ((2 ^ n - 1 : Nat) : Int)) := by
  have h0 : ¬ (n : Int) < 0 := by omega
  rw [wBin_eq]
  simp only [binV, isShift, shiftV, cond_true, h0, if_false, Option.elim_some, wBin_sub, wConv_eq]
  rw [← below_wrap hn]; rfl
theorem below49 {n : Nat} (hn : n ≤ 32) (H : Heap) (nx : Nat) : Ans Try.prog 49 [.int .i64 (n : Int)] H nx (Pure (.int .u32 ((2 ^ n - 1 : Nat) : Int)) H nx) := by
  refine spec49 ?_
  unfold F49
  simp only [below_any hn, forceV_eq]
  exact ⟨rfl, rfl, rfl⟩
theorem below52 {n : Nat} (hn : n ≤ 32) (H : Heap) (nx : Nat) : Ans Try.prog 52 [.int .i64 (n : Int)] H nx (Pure (.int .u32 ((2 ^ n - 1 : Nat) : Int)) H nx) := by
  refine spec52 ?_
  unfold F52
  simp only [below_any hn, forceV_eq]
  exact ⟨rfl, rfl, rfl⟩
theorem has29 {s n : Nat} (hs : s < 4294967296) (H : Heap) (nx : Nat) : Ans Try.prog 29 [.int .u32 (s : Int), .int .i64 (n : Int)] H nx (Pure (.bool (s.testBit n)) H nx) := by
  refine spec29 ?_
  unfold F29
  simp only [wBin_shr32 _ hs, wBin_rem2 _ (shr_lt hs), wBin_eql, bit_one, forceV_eq]
  exact ⟨rfl, rfl, rfl⟩
theorem contains31 {a b : Nat} (ha : a < 4294967296) (hb : b < 4294967296) (H : Heap) (nx : Nat) : Ans Try.prog 31 [.int .u32 (a : Int), .int .u32 (b : Int)] H nx (Pure (.bool (subB a b)) H nx) := by
  refine spec31 ?_
  unfold F31
  refine wLoop_rule (m := 32) (fun m L H' nx' => ∃ i : Nat, m + i = 32 ∧ L = [.int .i64 (i : Int)] ∧ subTo a b i ∧ H = H' ∧ nx = nx') ?_ ⟨0, rfl, rfl, subTo_zero a b, rfl, rfl⟩
  rintro m ih L _ _ ⟨i, hm, rfl, hst, rfl, rfl⟩ hih
  simp only [List.getD_cons_zero, wBin_lss, wIf_bool]
  by_cases hi : i < 32
  · have h1 : ((i : Int) < 32) := by omega
    simp only [h1, decide_true, if_true]
    refine wJoin_rule (fun L H' nx' => L = [.bool (b.testBit i && !a.testBit i)] ∧ H = H' ∧ nx = nx') ?_ ?_
    · intro j hj
      refine wCall_rule (has29 hb H nx) ?_
      rintro _ _ _ ⟨rfl, rfl, rfl⟩
      simp only [wGuard_true]
      cases hb1 : b.testBit i with
      | false => simp only [Bool.false_eq_true, if_false]; exact hj _ _ _ ⟨by simp [hb1], rfl, rfl⟩
      | true =>
        simp only [if_true]
        refine wCall_rule (has29 ha H nx) ?_
        rintro _ _ _ ⟨rfl, rfl, rfl⟩
        simp only [wUn_not]
        exact hj _ _ _ ⟨by simp [hb1], rfl, rfl⟩
    · rintro L _ _ ⟨rfl, rfl, rfl⟩
      simp only [List.getD_cons_zero, wIf_bool, forceV_eq]
      cases hb1 : b.testBit i && !a.testBit i with
      | true =>
        simp only [if_true]
        rw [Bool.and_eq_true] at hb1
        exact ⟨by rw [subB_no hi hb1.1 (by simpa using hb1.2)], rfl, rfl⟩
      | false =>
        simp only [Bool.false_eq_true, if_false]
        rw [wBin_add64 _ _ _ (by omega) (by omega)]
        refine hih (m - 1) _ _ _ (by omega) ⟨i + 1, by omega, by simp, subTo_succ hst ?_, rfl, rfl⟩
        cases h2 : b.testBit i <;> simp [h2] at hb1 ⊢
        exact hb1
  · have h1 : ¬ ((i : Int) < 32) := by omega
    simp only [h1, decide_false, Bool.false_eq_true, if_false, forceV_eq]
    have : i = 32 := by omega
    subst this
    exact ⟨by rw [subB_yes hst], rfl, rfl⟩
end Go.Proofs.Ytaieijjfabbfeaa

set_option linter.unusedSimpArgs false
set_option linter.unusedVariables false
set_option linter.unusedSectionVars false
namespace Go.Proofs.Ytaieijjfabbfeaa
open Go.Clo

/-- A graph, as a value. -/
abbrev gv (N : Int) (A : Option Addr) (len cap : Nat) : Value := .agg ⟨[.int .i64 N, .slice A len cap]⟩
/-- The error of a graph. -/
def gcode (N : Int) (es : List Nat) : Int := if N < 0 ∨ 32 < N then 3 else if 64 < es.length then 12 else if ∃ e ∈ es, 2 ^ N.toNat ≤ e then 1 else 0
theorem gcode_range {N : Int} {es : List Nat} (h : N < 0 ∨ 32 < N) : gcode N es = 3 := by simp [gcode, h]
theorem gcode_many {N : Int} {es : List Nat} (h1 : 0 ≤ N) (h2 : N ≤ 32) (h : 64 < es.length) : gcode N es = 12 := by
  have : ¬ (N < 0 ∨ 32 < N) := by omega
  simp [gcode, h, this]
theorem gcode_arg {n : Nat} {es : List Nat} (h1 : n ≤ 32) (h : es.length ≤ 64) {i e : Nat} (he : es[i]? = some e) (hb : 2 ^ n ≤ e) : gcode n es = 1 := by
  have a1 : ¬ ((n : Int) < 0 ∨ 32 < (n : Int)) := by omega
  have a2 : ¬ 64 < es.length := by omega
  simp [gcode, a1, a2]
  exact ⟨e, List.mem_of_getElem? he, hb⟩
theorem gcode_ok {n : Nat} {es : List Nat} (h1 : n ≤ 32) (h : es.length ≤ 64) (hb : ∀ (i e : Nat), es[i]? = some e → e < 2 ^ n) : gcode n es = 0 := by
  have a1 : ¬ ((n : Int) < 0 ∨ 32 < (n : Int)) := by omega
  have a2 : ¬ 64 < es.length := by omega
  simp [gcode, a1, a2]
  intro e he
  obtain ⟨i, hi, rfl⟩ := List.getElem_of_mem he
  exact hb i _ (List.getElem?_eq_getElem hi)
theorem ndiff_below {e n : Nat} (he : e < 4294967296) : decide (ndiff e (2 ^ n - 1) ≠ 0) = decide (2 ^ n ≤ e) := by
  congr 1
  apply propext
  constructor
  · intro h
    rcases Nat.lt_or_ge e (2 ^ n) with g | g
    · exfalso; apply h
      apply Nat.eq_of_testBit_eq
      intro i
      rw [ndiff_bit, Nat.testBit_two_pow_sub_one]
      by_cases hi : i < n
      · simp [hi]
      · rw [Nat.testBit_lt_two_pow (Nat.lt_of_lt_of_le g (Nat.pow_le_pow_right (n := 2) (by omega) (show n ≤ i by omega)))]; simp
    · exact g
  · intro h h0
    obtain ⟨i, hi, hb⟩ := Nat.exists_ge_and_testBit_of_ge_two_pow h
    have := ndiff_bit e (2 ^ n - 1) i
    rw [h0, hb, Nat.testBit_two_pow_sub_one] at this
    have hni : ¬ i < n := by omega
    simp [hni] at this
/-- What a Check of a graph answers. -/
def GSpec (f : FuncId) : Prop := ∀ (N : Int) (A : Option Addr) (es : List Nat) (cap : Nat) (H : Heap) (nx : Nat), Sl H nx A (u32s es) → Small es →
  Ans Try.prog f [gv N A es.length cap] H nx fun v H' nx' => v = .int .i64 (gcode N es) ∧ Ext H nx H' nx'

theorem check37 : GSpec 37 := by
  intro N A es cap H nx hS hsm
  refine spec37 ?_
  unfold F37
  have hE : Ext H nx (hs H nx (some (.cells [.int .i64 N, .slice A es.length cap] 0))) (nx + 1) := (Ext.refl H nx).new _ (Nat.le_refl _) (by omega)
  simp (disch := first | omega | assumption | exact shr_lt (by assumption) | exact ndiff32 (by assumption) | exact below_lt (by omega) | fail) only [wBin_lss, wBin_gtr, wGuard_false, wFld_eq, wNew_eq, dBox_agg, oneCells, wLd_none, ldP_cells, cellP_one, getH_same, forceV_eq, Option.elim_some, List.getElem?_cons_zero, Yld.val, if_true, Nat.zero_add, Nat.add_zero]
  by_cases h1 : N < 0
  · simp (disch := first | omega | assumption | exact shr_lt (by assumption) | exact ndiff32 (by assumption) | exact below_lt (by omega) | fail) only [List.getD_cons_zero, wBin_gtr, wIf_bool, wLen_slice, ldP_cells, cellP_one, getH_same, Option.elim_some, List.getElem?_cons_zero, List.getElem?_cons_succ, decide_true, if_true, wJoin_eq, h1]
    exact ⟨by rw [gcode_range (.inl h1)], hE⟩
  by_cases h2 : 32 < N
  · simp (disch := first | omega | assumption | exact shr_lt (by assumption) | exact ndiff32 (by assumption) | exact below_lt (by omega) | fail) only [List.getD_cons_zero, wBin_gtr, wIf_bool, wLen_slice, ldP_cells, cellP_one, getH_same, Option.elim_some, List.getElem?_cons_zero, List.getElem?_cons_succ, decide_true, decide_false, if_true, if_false, Bool.false_eq_true, wJoin_eq, h1, h2]
    exact ⟨by rw [gcode_range (.inr h2)], hE⟩
  obtain ⟨n, rfl⟩ := Int.eq_ofNat_of_zero_le (show 0 ≤ N by omega)
  simp (disch := first | omega | assumption | exact shr_lt (by assumption) | exact ndiff32 (by assumption) | exact below_lt (by omega) | fail) only [List.getD_cons_zero, wBin_gtr, wIf_bool, wLen_slice, ldP_cells, cellP_one, getH_same, Option.elim_some, List.getElem?_cons_zero, List.getElem?_cons_succ, decide_false, if_false, Bool.false_eq_true, wJoin_eq, h1, h2]
  by_cases h3 : 64 < es.length
  · have h3' : (64 : Int) < (es.length : Int) := by omega
    simp (disch := first | omega | assumption | exact shr_lt (by assumption) | exact ndiff32 (by assumption) | exact below_lt (by omega) | fail) only [decide_true, if_true, h3']
    exact ⟨by rw [gcode_many (by omega) (by omega) h3], hE⟩
  have h3' : ¬ (64 : Int) < (es.length : Int) := by omega
  simp (disch := first | omega | assumption | exact shr_lt (by assumption) | exact ndiff32 (by assumption) | exact below_lt (by omega) | fail) only [decide_false, if_false, Bool.false_eq_true, h3']
  refine wLoop_rule (m := es.length) (fun m L H' nx' => ∃ i : Nat, m + i = es.length ∧ L = [.int .i64 (i : Int)] ∧ (∀ (j e : Nat), j < i → es[j]? = some e → e < 2 ^ n) ∧ _ = H' ∧ nx + 1 = nx') ?_ ⟨0, rfl, rfl, fun j e h => by omega, rfl, rfl⟩
  rintro m ih L _ _ ⟨i, hm, rfl, hst, rfl, rfl⟩ hih
  by_cases hi : i < es.length
  · obtain ⟨e, he⟩ : ∃ e, es[i]? = some e := ⟨_, List.getElem?_eq_getElem hi⟩
    obtain ⟨b, o, row, rfl, hb, hrow, hget⟩ := (hS.ext hE).open (i := i) (by rw [u32s_length]; exact hi)
    have hlt : ((i : Int) < (es.length : Int)) := by omega
    have he32 := hsm.get he
    simp (disch := first | omega | assumption | exact shr_lt (by assumption) | exact ndiff32 (by assumption) | exact below_lt (by omega) | fail) only [List.getD_cons_zero, wBin_lss, wIf_bool, wLd_none, ldP_cells, cellP_one, getH_same, Option.elim_some, List.getElem?_cons_zero, decide_true, if_true, wBin_add64, wIdx_slice, Int.toNat_natCast, Nat.mul_one, hlt, ldP_row hrow, hget _ _ (u32s_get he)]
    refine wCall_rule (below52 (by omega) _ _) ?_
    rintro _ _ _ ⟨rfl, rfl, rfl⟩
    rw [wBin_andNot32 _ he32 (below_lt (by omega))]
    simp (disch := first | omega | assumption | exact shr_lt (by assumption) | exact ndiff32 (by assumption) | exact below_lt (by omega) | fail) only [wBin_neq, wIf_bool, u32_ne_zero, ndiff_below he32]
    by_cases hbig : 2 ^ n ≤ e
    · simp (disch := first | omega | assumption | exact shr_lt (by assumption) | exact ndiff32 (by assumption) | exact below_lt (by omega) | fail) only [decide_true, if_true, hbig]
      exact ⟨by rw [gcode_arg (by omega) (by omega) he hbig], hE⟩
    · simp (disch := first | omega | assumption | exact shr_lt (by assumption) | exact ndiff32 (by assumption) | exact below_lt (by omega) | fail) only [decide_false, if_false, Bool.false_eq_true, hbig]
      refine hih (m - 1) _ _ _ (by omega) ⟨i + 1, by omega, by simp, fun j e' hj he' => ?_, rfl, rfl⟩
      by_cases hji : j = i
      · subst hji; rw [he] at he'; cases he'; omega
      · exact hst j e' (by omega) he'
  · have hlt : ¬ ((i : Int) < (es.length : Int)) := by omega
    simp (disch := first | omega | assumption | exact shr_lt (by assumption) | exact ndiff32 (by assumption) | exact below_lt (by omega) | fail) only [List.getD_cons_zero, wBin_lss, wIf_bool, ldP_cells, cellP_one, getH_same, Option.elim_some, List.getElem?_cons_zero, decide_false, if_false, Bool.false_eq_true, wBin_add64, hlt]
    exact ⟨by rw [gcode_ok (by omega) (by omega) fun j e he => hst j e (by have : j < es.length := by { rcases Nat.lt_or_ge j es.length with g | g; exact g; rw [List.getElem?_eq_none g] at he; cases he }; omega) he], hE⟩
theorem lt_len {α : Type} {l : List α} {i : Nat} {a : α} (h : l[i]? = some a) : i < l.length := by
  rcases Nat.lt_or_ge i l.length with g | g
  · exact g
  · rw [List.getElem?_eq_none g] at h; cases h
theorem lt_of_bits {e n : Nat} (he : e < 4294967296) (h : ∀ v, n ≤ v → v < 32 → e.testBit v = false) : e < 2 ^ n := by
  rcases Nat.lt_or_ge e (2 ^ n) with g | g
  · exact g
  · obtain ⟨i, hi, hb⟩ := Nat.exists_ge_and_testBit_of_ge_two_pow g
    rw [h i hi (bit_high he hb)] at hb; cases hb
theorem ge_of_bit {e n v : Nat} (hv : n ≤ v) (h : e.testBit v = true) : 2 ^ n ≤ e := by
  rcases Nat.lt_or_ge e (2 ^ n) with g | g
  · rw [Nat.testBit_lt_two_pow (Nat.lt_of_lt_of_le g (Nat.pow_le_pow_right (n := 2) (by omega) hv))] at h; cases h
  · exact g
theorem check9 : GSpec 9 := by
  intro N A es cap H nx hS hsm
  refine spec9 ?_
  unfold F9
  have hE : Ext H nx (hs H nx (some (.cells [.int .i64 N, .slice A es.length cap] 0))) (nx + 1) := (Ext.refl H nx).new _ (Nat.le_refl _) (by omega)
  simp (disch := first | omega | assumption | exact shr_lt (by assumption) | exact ndiff32 (by assumption) | exact below_lt (by omega) | fail) only [wBin_lss, wBin_gtr, wGuard_false, wFld_eq, wNew_eq, dBox_agg, oneCells, wLd_none, ldP_cells, cellP_one, getH_same, forceV_eq, Option.elim_some, List.getElem?_cons_zero, Yld.val, if_true, Nat.zero_add, Nat.add_zero]
  by_cases h1 : N < 0
  · simp (disch := first | omega | assumption | exact shr_lt (by assumption) | exact ndiff32 (by assumption) | exact below_lt (by omega) | fail) only [List.getD_cons_zero, wBin_gtr, wIf_bool, wLen_slice, ldP_cells, cellP_one, getH_same, Option.elim_some, List.getElem?_cons_zero, List.getElem?_cons_succ, decide_true, if_true, wJoin_eq, h1]
    exact ⟨by rw [gcode_range (.inl h1)], hE⟩
  by_cases h2 : 32 < N
  · simp (disch := first | omega | assumption | exact shr_lt (by assumption) | exact ndiff32 (by assumption) | exact below_lt (by omega) | fail) only [List.getD_cons_zero, wBin_gtr, wIf_bool, wLen_slice, ldP_cells, cellP_one, getH_same, Option.elim_some, List.getElem?_cons_zero, List.getElem?_cons_succ, decide_true, decide_false, if_true, if_false, Bool.false_eq_true, wJoin_eq, h1, h2]
    exact ⟨by rw [gcode_range (.inr h2)], hE⟩
  obtain ⟨n, rfl⟩ := Int.eq_ofNat_of_zero_le (show 0 ≤ N by omega)
  simp (disch := first | omega | assumption | exact shr_lt (by assumption) | exact ndiff32 (by assumption) | exact below_lt (by omega) | fail) only [List.getD_cons_zero, wBin_gtr, wIf_bool, wLen_slice, ldP_cells, cellP_one, getH_same, Option.elim_some, List.getElem?_cons_zero, List.getElem?_cons_succ, decide_false, if_false, Bool.false_eq_true, wJoin_eq, h1, h2]
  by_cases h3 : 64 < es.length
  · have h3' : (64 : Int) < (es.length : Int) := by omega
    simp (disch := first | omega | assumption | exact shr_lt (by assumption) | exact ndiff32 (by assumption) | exact below_lt (by omega) | fail) only [decide_true, if_true, h3']
    exact ⟨by rw [gcode_many (by omega) (by omega) h3], hE⟩
  have h3' : ¬ (64 : Int) < (es.length : Int) := by omega
  simp (disch := first | omega | assumption | exact shr_lt (by assumption) | exact ndiff32 (by assumption) | exact below_lt (by omega) | fail) only [decide_false, if_false, Bool.false_eq_true, h3']
  refine wLoop_rule (m := es.length) (fun m L H' nx' => ∃ i : Nat, m + i = es.length ∧ L = [.int .i64 (i : Int)] ∧ (∀ (j e : Nat), j < i → es[j]? = some e → e < 2 ^ n) ∧ _ = H' ∧ nx + 1 = nx') ?_ ⟨0, rfl, rfl, fun j e h => by omega, rfl, rfl⟩
  rintro m ih L _ _ ⟨i, hm, rfl, hst, rfl, rfl⟩ hih
  simp (disch := first | omega | assumption | exact shr_lt (by assumption) | exact ndiff32 (by assumption) | exact below_lt (by omega) | fail) only [List.getD_cons_zero, wBin_lss, wIf_bool, wLen_slice, ldP_cells, cellP_one, getH_same, Option.elim_some, List.getElem?_cons_zero, List.getElem?_cons_succ, wBin_add64]
  by_cases hi : i < es.length
  · obtain ⟨e, he⟩ : ∃ e, es[i]? = some e := ⟨_, List.getElem?_eq_getElem hi⟩
    obtain ⟨b, o, row, rfl, hb, hrow, hget⟩ := (hS.ext hE).open (i := i) (by rw [u32s_length]; exact hi)
    have hlt : ((i : Int) < (es.length : Int)) := by omega
    have he32 := hsm.get he
    simp (disch := first | omega | assumption | exact shr_lt (by assumption) | exact ndiff32 (by assumption) | exact below_lt (by omega) | fail) only [decide_true, if_true, hlt]
    refine wLoop_rule (m := 32 - n) (fun m L H' nx' => ∃ v : Nat, m + v = 32 ∧ n ≤ v ∧ L = [.int .i64 (v : Int)] ∧ (∀ u, n ≤ u → u < v → e.testBit u = false) ∧ _ = H' ∧ nx + 1 = nx') ?_ ⟨n, by omega, Nat.le_refl _, rfl, fun u h1 h2 => by omega, rfl, rfl⟩
    rintro m2 ih2 L2 _ _ ⟨v, hm2, hnv, rfl, hbits, rfl, rfl⟩ hih2
    by_cases hv : v < 32
    · have hv' : ((v : Int) < 32) := by omega
      simp (disch := first | omega | assumption | exact shr_lt (by assumption) | exact ndiff32 (by assumption) | exact below_lt (by omega) | fail) only [List.getD_cons_zero, wBin_lss, wIf_bool, wLd_none, ldP_cells, cellP_one, getH_same, Option.elim_some, List.getElem?_cons_zero, List.getElem?_cons_succ, decide_true, if_true, wBin_add64, wIdx_slice, Int.toNat_natCast, Nat.mul_one, hv', ldP_row hrow, hget _ _ (u32s_get he)]
      refine wCall_rule (has29 he32 _ _) ?_
      rintro _ _ _ ⟨rfl, rfl, rfl⟩
      cases hb1 : e.testBit v with
      | true =>
        simp (disch := first | omega | assumption | exact shr_lt (by assumption) | exact ndiff32 (by assumption) | exact below_lt (by omega) | fail) only [wIf_bool, if_true]
        exact ⟨by rw [gcode_arg (by omega) (by omega) he (ge_of_bit hnv hb1)], hE⟩
      | false =>
        simp (disch := first | omega | assumption | exact shr_lt (by assumption) | exact ndiff32 (by assumption) | exact below_lt (by omega) | fail) only [wIf_bool, if_false, Bool.false_eq_true]
        refine hih2 (m2 - 1) _ _ _ (by omega) ⟨v + 1, by omega, by omega, by simp, fun u h1 h2 => ?_, rfl, rfl⟩
        by_cases huv : u = v
        · subst huv; exact hb1
        · exact hbits u h1 (by omega)
    · have hv' : ¬ ((v : Int) < 32) := by omega
      simp (disch := first | omega | assumption | exact shr_lt (by assumption) | exact ndiff32 (by assumption) | exact below_lt (by omega) | fail) only [List.getD_cons_zero, wBin_lss, wIf_bool, wLd_none, ldP_cells, cellP_one, getH_same, Option.elim_some, List.getElem?_cons_zero, List.getElem?_cons_succ, decide_false, if_false, Bool.false_eq_true, wBin_add64, wIdx_slice, Int.toNat_natCast, Nat.mul_one, hv']
      refine hih (m - 1) _ _ _ (by omega) ⟨i + 1, by omega, by simp, fun j e' hj he' => ?_, rfl, rfl⟩
      by_cases hji : j = i
      · subst hji; rw [he] at he'; cases he'
        exact lt_of_bits he32 fun u h1 h2 => hbits u h1 (by omega)
      · exact hst j e' (by omega) he'
  · have hlt : ¬ ((i : Int) < (es.length : Int)) := by omega
    simp (disch := first | omega | assumption | exact shr_lt (by assumption) | exact ndiff32 (by assumption) | exact below_lt (by omega) | fail) only [decide_false, if_false, Bool.false_eq_true, hlt]
    exact ⟨by rw [gcode_ok (by omega) (by omega) fun j e he => hst j e (by have := lt_len he; omega) he], hE⟩

/-- The error of a graph or of a number of free variables. -/
def fcode (N free : Int) (es : List Nat) : Int := if gcode N es ≠ 0 then gcode N es else if free < 0 ∨ N < free then 3 else 0
theorem checkFree27 (N free : Int) (A : Option Addr) (es : List Nat) (cap : Nat) (H : Heap) (nx : Nat) (hS : Sl H nx A (u32s es)) (hsm : Small es) :
    Ans Try.prog 27 [gv N A es.length cap, .int .i64 free] H nx fun v H' nx' => v = .int .i64 (fcode N free es) ∧ Ext H nx H' nx' := by
  refine spec27 ?_
  unfold F27
  have hE : Ext H nx (hs H nx (some (.cells [.int .i64 N, .slice A es.length cap] 0))) (nx + 1) := (Ext.refl H nx).new _ (Nat.le_refl _) (by omega)
  simp (disch := first | omega | assumption | exact shr_lt (by assumption) | exact ndiff32 (by assumption) | exact below_lt (by omega) | fail) only [wBin_lss, wGuard_false, wFld_eq, wNew_eq, dBox_agg, oneCells, wLd_none, wLd_2, ldP_cells, getH_same, forceV_eq, Yld.val, if_true, Nat.add_zero, cellP_lit2]
  refine wCall_rule (check37 N A es cap _ _ (hS.ext hE) hsm) ?_
  rintro _ H2 nx2 ⟨rfl, hE2⟩
  have hg := hE2.get nx (by omega)
  rw [getH_same] at hg
  simp (disch := first | omega | assumption | exact shr_lt (by assumption) | exact ndiff32 (by assumption) | exact below_lt (by omega) | fail) only [List.getD_cons_zero, wBin_gtr, wBin_neq, wIf_bool, ldP_cells, cellP_one, Option.elim_some, List.getElem?_cons_zero, if_true, hg, wJoin_eq]
  by_cases h0 : gcode N es = 0
  · by_cases h1 : free < 0
    · simp (disch := first | omega | assumption | exact shr_lt (by assumption) | exact ndiff32 (by assumption) | exact below_lt (by omega) | fail) only [decide_true, decide_false, if_true, if_false, Bool.false_eq_true, h0, h1, ne_eq, not_true_eq_false]
      exact ⟨by simp [fcode, h0, h1], hE.trans hE2⟩
    · by_cases h2 : N < free
      · simp (disch := first | omega | assumption | exact shr_lt (by assumption) | exact ndiff32 (by assumption) | exact below_lt (by omega) | fail) only [decide_true, decide_false, if_true, if_false, Bool.false_eq_true, h0, h1, h2, ne_eq, not_true_eq_false]
        exact ⟨by simp [fcode, h0, h2], hE.trans hE2⟩
      · simp (disch := first | omega | assumption | exact shr_lt (by assumption) | exact ndiff32 (by assumption) | exact below_lt (by omega) | fail) only [decide_false, if_false, Bool.false_eq_true, h0, h1, h2, ne_eq, not_true_eq_false]
        exact ⟨by simp [fcode, h0, h1, h2], hE.trans hE2⟩
  · simp (disch := first | omega | assumption | exact shr_lt (by assumption) | exact ndiff32 (by assumption) | exact below_lt (by omega) | fail) only [decide_true, if_true, h0, ne_eq, not_false_eq_true]
    exact ⟨by simp [fcode, h0], hE.trans hE2⟩
end Go.Proofs.Ytaieijjfabbfeaa

set_option linter.unusedSimpArgs false
set_option linter.unusedVariables false
set_option linter.unusedSectionVars false
namespace Go.Proofs.Ytaieijjfabbfeaa
open Go.Clo

structure Bag where
  var : Int
  key : Nat
  par : Int
def bagC (b : Bag) : List Value := [.int .i64 b.var, .int .u32 (b.key : Int), .int .i64 b.par]
abbrev bagV (b : Bag) : Value := .agg ⟨bagC b⟩
def bagsC (bs : List Bag) : List Value := bs.flatMap bagC
theorem bagsC_length (bs : List Bag) : (bagsC bs).length = bs.length * 3 := by
  induction bs with
  | nil => rfl
  | cons b bs ih => simp [bagsC, bagC] at ih ⊢; omega
theorem bagsC_get : ∀ {bs : List Bag} {i : Nat} {b : Bag}, bs[i]? = some b → ∀ j v, (bagC b)[j]? = some v → (bagsC bs)[i * 3 + j]? = some v
  | [], i, b, h, _, _, _ => by simp at h
  | b0 :: bs, 0, b, h, j, v, hv => by
    simp at h; subst h
    have hj := lt_len hv
    show (bagC b0 ++ bagsC bs)[0 * 3 + j]? = some v
    rw [List.getElem?_append_left (by simpa using hj)]; simpa using hv
  | b0 :: bs, i + 1, b, h, j, v, hv => by
    have := bagsC_get (bs := bs) (i := i) (by simpa using h) j v hv
    show (bagC b0 ++ bagsC bs)[(i + 1) * 3 + j]? = some v
    rw [List.getElem?_append_right (by simp [bagC]; omega)]
    have e : (i + 1) * 3 + j - (bagC b0).length = i * 3 + j := by simp [bagC]; omega
    rw [e]; exact this
def KeyOK (bs : List Bag) : Prop := ∀ b ∈ bs, b.key < 4294967296
theorem KeyOK.get {bs : List Bag} (h : KeyOK bs) {i : Nat} {b : Bag} (hb : bs[i]? = some b) : b.key < 4294967296 := h b (List.mem_of_getElem? hb)

/-- The error of the bag of v alone. -/
def bcode (n free v : Nat) (b : Bag) : Int :=
  if b.var ≠ v ∨ b.key.testBit v = true ∨ 2 ^ n ≤ b.key then 1
  else if v < free ∧ 2 ^ v ≤ b.key then 16
  else if (b.key = 0 ∧ b.par ≠ -1) ∨ (b.key ≠ 0 ∧ (b.par < 0 ∨ (n : Int) ≤ b.par ∨ b.key.testBit b.par.toNat = false)) then 28 else 0

theorem checkBag28 {n free v : Nat} {b : Bag} (hn : n ≤ 32) (hv : v < n) (hk : b.key < 4294967296) (H : Heap) (nx : Nat) :
    Ans Try.prog 28 [.int .i64 (n : Int), .int .i64 (free : Int), .int .i64 (v : Int), bagV b] H nx fun r H' nx' => r = .int .i64 (bcode n free v b) ∧ Ext H nx H' nx' := by
  obtain ⟨var, key, par⟩ := b
  dsimp only at hk
  refine spec28 ?_
  unfold F28
  have hE : ∀ m, nx + 1 ≤ m → Ext H nx (hs H nx (some (.cells [.int .i64 var, .int .u32 (key : Int), .int .i64 par] 0))) m := fun m hm => (Ext.refl H nx).new _ (Nat.le_refl _) (by omega)
  simp only [bagV, bagC]
  simp (disch := first | omega | assumption | exact shr_lt (by assumption) | exact ndiff32 (by assumption) | exact below_lt (by omega) | fail) only [wBin_lss, wBin_eql, wBin_neq, wGuard_true, wGuard_false, wFld_eq, wNew_eq, dBox_agg, oneCells, wLd_none, ldP_cells, cellP_one, getH_same, forceV_eq, forceN_eq, Option.elim_some, List.getElem?_cons_zero, List.getElem?_cons_succ, Yld.val, if_true, Nat.zero_add, Nat.add_zero, and_true, true_and, or_false, bit_one, wBin_shr32, wBin_and1]
  refine wJoin_rule (fun L H' nx' => L = [.bool (decide (var ≠ v ∨ key.testBit v = true ∨ 2 ^ n ≤ key))] ∧ (hs H nx (some (.cells [.int .i64 var, .int .u32 (key : Int), .int .i64 par] 0))) = H' ∧ nx + 1 ≤ nx') ?_ ?_
  · intro j hj
    by_cases h1 : var = v
    · have d1 : decide (var ≠ v) = false := by simp [h1]
      cases h2 : key.testBit v with
      | true =>
        simp (disch := first | omega | assumption | exact shr_lt (by assumption) | exact ndiff32 (by assumption) | exact below_lt (by omega) | fail) only [if_true, if_false, Bool.false_eq_true, d1]
        exact hj _ _ _ ⟨by simp [h1, h2], rfl, by omega⟩
      | false =>
        simp (disch := first | omega | assumption | exact shr_lt (by assumption) | exact ndiff32 (by assumption) | exact below_lt (by omega) | fail) only [if_false, Bool.false_eq_true, d1]
        refine wCall_rule (below49 hn _ _) ?_
        rintro _ _ _ ⟨rfl, rfl, rfl⟩
        simp (disch := first | omega | assumption | exact shr_lt (by assumption) | exact ndiff32 (by assumption) | exact below_lt (by omega) | fail) only [wBin_neq, ldP_cells, cellP_one, getH_same, Option.elim_some, List.getElem?_cons_zero, List.getElem?_cons_succ, true_and, wBin_andNot32, u32_ne_zero, ndiff_below hk]
        exact hj _ _ _ ⟨by simp [h1, h2], rfl, by omega⟩
    · have d1 : decide (var ≠ v) = true := by simp [h1]
      simp (disch := first | omega | assumption | exact shr_lt (by assumption) | exact ndiff32 (by assumption) | exact below_lt (by omega) | fail) only [if_true, d1]
      exact hj _ _ _ ⟨by simp [h1], rfl, by omega⟩
  rintro L _ nx2 ⟨rfl, rfl, hn2⟩
  simp (disch := first | omega | assumption | exact shr_lt (by assumption) | exact ndiff32 (by assumption) | exact below_lt (by omega) | fail) only [List.getD_cons_zero, wIf_bool, ldP_cells, cellP_one, getH_same, Option.elim_some, List.getElem?_cons_zero, List.getElem?_cons_succ, and_true]
  by_cases h1 : var ≠ v ∨ key.testBit v = true ∨ 2 ^ n ≤ key
  · simp (disch := first | omega | assumption | exact shr_lt (by assumption) | exact ndiff32 (by assumption) | exact below_lt (by omega) | fail) only [decide_true, if_true, h1]
    exact ⟨by rw [bcode, if_pos h1], hE _ hn2⟩
  simp (disch := first | omega | assumption | exact shr_lt (by assumption) | exact ndiff32 (by assumption) | exact below_lt (by omega) | fail) only [decide_false, if_false, Bool.false_eq_true, h1]
  refine wJoin_rule (fun L H' nx' => L = [.bool (decide (v < free ∧ 2 ^ v ≤ key))] ∧ (hs H nx (some (.cells [.int .i64 var, .int .u32 (key : Int), .int .i64 par] 0))) = H' ∧ nx + 1 ≤ nx') ?_ ?_
  · intro j hj
    by_cases h2 : v < free
    · have h2' : (v : Int) < (free : Int) := by omega
      simp (disch := first | omega | assumption | exact shr_lt (by assumption) | exact ndiff32 (by assumption) | exact below_lt (by omega) | fail) only [decide_true, if_true, h2']
      refine wCall_rule (below49 (by omega) _ _) ?_
      rintro _ _ _ ⟨rfl, rfl, rfl⟩
      simp (disch := first | omega | assumption | exact shr_lt (by assumption) | exact ndiff32 (by assumption) | exact below_lt (by omega) | fail) only [wBin_neq, ldP_cells, cellP_one, getH_same, Option.elim_some, List.getElem?_cons_zero, List.getElem?_cons_succ, true_and, wBin_andNot32, u32_ne_zero, ndiff_below hk]
      exact hj _ _ _ ⟨by simp [h2], rfl, by omega⟩
    · have h2' : ¬ (v : Int) < (free : Int) := by omega
      simp (disch := first | omega | assumption | exact shr_lt (by assumption) | exact ndiff32 (by assumption) | exact below_lt (by omega) | fail) only [decide_false, if_false, Bool.false_eq_true, h2']
      exact hj _ _ _ ⟨by simp [h2], rfl, by omega⟩
  rintro L _ nx3 ⟨rfl, rfl, hn3⟩
  simp (disch := first | omega | assumption | exact shr_lt (by assumption) | exact ndiff32 (by assumption) | exact below_lt (by omega) | fail) only [List.getD_cons_zero, wBin_eql, wBin_neq, wIf_bool, wGuard_true, ldP_cells, cellP_one, getH_same, Option.elim_some, List.getElem?_cons_zero, List.getElem?_cons_succ, u32_eq_zero]
  by_cases h2 : v < free ∧ 2 ^ v ≤ key
  · simp (disch := first | omega | assumption | exact shr_lt (by assumption) | exact ndiff32 (by assumption) | exact below_lt (by omega) | fail) only [decide_true, if_true, and_self, h2]
    exact ⟨by rw [bcode, if_neg h1, if_pos h2], hE _ hn3⟩
  simp (disch := first | omega | assumption | exact shr_lt (by assumption) | exact ndiff32 (by assumption) | exact below_lt (by omega) | fail) only [decide_false, if_false, Bool.false_eq_true, h2]
  have fin28 : ((key = 0 ∧ par ≠ -1) ∨ (key ≠ 0 ∧ (par < 0 ∨ (n : Int) ≤ par ∨ key.testBit par.toNat = false))) → Value.int .i64 28 = .int .i64 (bcode n free v ⟨var, key, par⟩) := fun h => by rw [bcode, if_neg h1, if_neg h2, if_pos h]
  have fin0 : ¬ ((key = 0 ∧ par ≠ -1) ∨ (key ≠ 0 ∧ (par < 0 ∨ (n : Int) ≤ par ∨ key.testBit par.toNat = false))) → Value.int .i64 0 = .int .i64 (bcode n free v ⟨var, key, par⟩) := fun h => by rw [bcode, if_neg h1, if_neg h2, if_neg h]
  by_cases h3 : key = 0
  · have d3 : decide (key = 0) = true := by simp [h3]
    have d3' : decide (key ≠ 0) = false := by simp [h3]
    by_cases h4 : par = -1
    · have d4 : decide (par ≠ -1) = false := by simp [h4]
      simp (disch := first | omega | assumption | exact shr_lt (by assumption) | exact ndiff32 (by assumption) | exact below_lt (by omega) | fail) only [List.getD_cons_zero, wBin_lss, wBin_geq, wBin_neq, wIf_bool, wGuard_true, wGuard_false, ldP_cells, cellP_one, getH_same, Option.elim_some, List.getElem?_cons_zero, List.getElem?_cons_succ, if_true, if_false, Bool.false_eq_true, u32_ne_zero, wJoin_eq, d3, d3', d4]
      exact ⟨fin0 (by simp [h3, h4]), hE _ hn3⟩
    · have d4 : decide (par ≠ -1) = true := by simp [h4]
      simp (disch := first | omega | assumption | exact shr_lt (by assumption) | exact ndiff32 (by assumption) | exact below_lt (by omega) | fail) only [List.getD_cons_zero, wBin_lss, wBin_geq, wBin_neq, wIf_bool, wGuard_true, wGuard_false, ldP_cells, cellP_one, getH_same, Option.elim_some, List.getElem?_cons_zero, List.getElem?_cons_succ, if_true, if_false, Bool.false_eq_true, u32_ne_zero, wJoin_eq, d3, d3', d4]
      exact ⟨fin28 (by simp [h3, h4]), hE _ hn3⟩
  have d3 : decide (key = 0) = false := by simp [h3]
  have d3' : decide (key ≠ 0) = true := by simp [h3]
  · by_cases h4 : par < 0
    · simp (disch := first | omega | assumption | exact shr_lt (by assumption) | exact ndiff32 (by assumption) | exact below_lt (by omega) | fail) only [List.getD_cons_zero, wBin_lss, wBin_geq, wBin_neq, wIf_bool, wGuard_true, wGuard_false, ldP_cells, cellP_one, getH_same, Option.elim_some, List.getElem?_cons_zero, List.getElem?_cons_succ, decide_true, if_true, if_false, Bool.false_eq_true, u32_ne_zero, wJoin_eq, d3, d3', h4]
      exact ⟨fin28 (by simp [h3, h4]), hE _ hn3⟩
    · by_cases h5 : (n : Int) ≤ par
      · simp (disch := first | omega | assumption | exact shr_lt (by assumption) | exact ndiff32 (by assumption) | exact below_lt (by omega) | fail) only [List.getD_cons_zero, wBin_lss, wBin_geq, wBin_neq, wIf_bool, wGuard_true, wGuard_false, ldP_cells, cellP_one, getH_same, Option.elim_some, List.getElem?_cons_zero, List.getElem?_cons_succ, decide_true, decide_false, if_true, if_false, Bool.false_eq_true, u32_ne_zero, wJoin_eq, d3, d3', h4, h5]
        exact ⟨fin28 (by simp [h3, h5]), hE _ hn3⟩
      · obtain ⟨p, rfl⟩ := Int.eq_ofNat_of_zero_le (show 0 ≤ par by omega)
        cases h6 : key.testBit p with
        | true =>
          simp (disch := first | omega | assumption | exact shr_lt (by assumption) | exact ndiff32 (by assumption) | exact below_lt (by omega) | fail) only [List.getD_cons_zero, wBin_lss, wBin_geq, wBin_eql, wBin_neq, wIf_bool, wGuard_true, wGuard_false, ldP_cells, cellP_one, getH_same, Option.elim_some, List.getElem?_cons_zero, List.getElem?_cons_succ, decide_false, if_true, if_false, Bool.false_eq_true, Bool.not_true, bit_zero', wBin_shr32, wBin_and1, u32_eq_zero, u32_ne_zero, wJoin_eq, d3, d3', h4, h5, h6]
          exact ⟨fin0 (by simp [h3, h6]; omega), hE _ hn3⟩
        | false =>
          simp (disch := first | omega | assumption | exact shr_lt (by assumption) | exact ndiff32 (by assumption) | exact below_lt (by omega) | fail) only [List.getD_cons_zero, wBin_lss, wBin_geq, wBin_eql, wBin_neq, wIf_bool, wGuard_true, wGuard_false, ldP_cells, cellP_one, getH_same, Option.elim_some, List.getElem?_cons_zero, List.getElem?_cons_succ, decide_false, if_true, if_false, Bool.false_eq_true, Bool.not_false, bit_zero', wBin_shr32, wBin_and1, u32_eq_zero, u32_ne_zero, wJoin_eq, d3, d3', h4, h5, h6]
          exact ⟨fin28 (by simp [h3, h6]), hE _ hn3⟩
end Go.Proofs.Ytaieijjfabbfeaa

set_option linter.unusedSimpArgs false
set_option linter.unusedVariables false
set_option linter.unusedSectionVars false
namespace Go.Clo

/-- A closed run is a claim. -/
theorem ans_of_run {P : Program} {n : Nat} {orc : Orc} (hm : P.follows .mixedOrders = true) (hNG : NamesOK P) (ho : OrcOK P orc) {f : FuncId} {args : List Value} {v : Value} (hr : runA P orc n f args = some v) (ha : args.all flat1 = true) (hv : flat v = true) (H : Heap) (nx : Nat) :
    Ans P f args H nx fun v' H' nx' => v = v' ∧ H = H' ∧ nx = nx' := by
  have hE : Enters P f := by
    unfold runA at hr
    rcases callN_sound (β := Option Value) hm hNG ho n f args .leaf 0 none (fun v _ _ => some v) with h | ⟨v', H', nx', h, hcs⟩
    · rw [h] at hr; cases hr
    · exact hcs.1
  refine ⟨v, H, nx, ⟨hE, fun F args' w hh hl => ?_⟩, rfl, rfl, rfl⟩
  have e := flatL_eq hl ha
  subst e
  refine (run_calls hm hNG ho hr ha hv w).mono fun e w' ⟨he, hb⟩ => ⟨v, F, he, flat_refl F v hv, ?_⟩
  exact { le := Nat.le_refl _, ext := fun _ _ => rfl, os := hb.os, tape := hb.tape, output := hb.output, size := hb.size, frame := fun b h _ => hb.block b h, own := fun _ h => .inl h, keep := fun _ _ h => h, rom := fun i b h _ => ⟨hh.low h, h⟩, hr := ⟨fun i b hi hg => let ⟨t, h1, h2⟩ := hh.blk i b hi hg; ⟨t, h1, h2.mono (fun _ _ h => h) (hb.block _ h2.lt)⟩, hh.inj, hh.fresh, hh.top⟩ }

/-- An abstract heap of arguments: all of it is only read. -/
structure In (w : World) (F : FM) (H : Heap) (nx : Nat) : Prop where
  hr : HR F H nx w
  rom : ∀ i b, getH H i = some b → b.isRom = true
theorem In.start (w : World) : In w (fun _ => none) .leaf 0 :=
  ⟨⟨fun i b hi => by omega, fun i j bi bj ti tj hi => by omega, fun _ _ => rfl, fun _ _ => rfl⟩, fun i b h => by rw [getH_leaf] at h; cases h⟩

theorem calls_of_ans {P : Program} {f : FuncId} {args args' : List Value} {H : Heap} {nx : Nat} {Q : Value → Heap → Nat → Prop} {w : World} {F : FM} (h : Ans P f args H nx Q) (hQ : ∀ v H' nx', Q v H' nx' → v = .bool true) (hi : In w F H nx) (hl : VL F args args') :
    Calls P f args'.toArray w fun e w' => e = .returned (.bool true) ∧ RowKit.Below w.heap.size w w' := by
  obtain ⟨v, H', nx', hcs, hq⟩ := h
  have := hQ _ _ _ hq
  subst this
  refine (hcs.2 F args' w hi.hr hl).mono fun e w' ⟨v', F', he, hvr, hst⟩ => ?_
  cases hvr
  refine ⟨he, hst.os, hst.tape, hst.output, hst.size, fun b hb => hst.frame b hb ?_⟩
  rintro ⟨i, k, t, _, hg, hk, _⟩
  rw [hi.rom i k hg] at hk; cases hk

def putF (F : FM) (i : Nat) (t : Tgt) : FM := fun j => if j = i then some t else F j
theorem putF_le {w : World} {F : FM} {H : Heap} {nx : Nat} (h : In w F H nx) (t : Tgt) : F.le (putF F nx t) := by
  intro i u hu
  have : i ≠ nx := by
    intro e; subst e
    rw [h.hr.fresh i (Nat.le_refl _)] at hu; cases hu
  simp [putF, this, hu]

/-- A name for an address. -/
theorem In.name {w : World} {F : FM} {H : Heap} {nx : Nat} (h : In w F H nx) (t : Tgt) : In w (putF F nx t) H (nx + 1) := by
  have hle := putF_le h t
  refine ⟨⟨fun i b hi hg => ?_, fun i j bi bj ti tj hi hj hgi hgj _ _ _ => .inr ⟨h.rom _ _ hgi, h.rom _ _ hgj⟩, fun i hi => ?_, fun i hi => h.hr.top i (by omega)⟩, h.rom⟩
  · obtain ⟨u, h1, h2⟩ := h.hr.blk i b (h.hr.low hg) hg
    exact ⟨u, hle _ _ h1, h2.mono hle rfl⟩
  · have : i ≠ nx := by omega
    simp [putF, this]; exact h.hr.fresh i (by omega)
/-- A row that is only read. -/
theorem In.row {w : World} {F : FM} {H : Heap} {nx : Nat} (h : In w F H nx) {a : Nat} {off : Nat} {c' : Array Value} {e : TypeId} {m : Nat × Nat} {c : List Value} (hb : w.heap[a]? = some (.cells c' e m)) (hle : off + c.length ≤ c'.size)
    (hv : VL F c ((c'.toList.drop off).take c.length)) : In w (putF F nx ⟨a, off, c.length, 0, c'.size⟩) (hs H nx (some (.rom c))) (nx + 1) := by
  have h1 := h.name ⟨a, off, c.length, 0, c'.size⟩
  have hle2 := putF_le h ⟨a, off, c.length, 0, c'.size⟩
  have hrom : ∀ i b, getH (hs H nx (some (.rom c))) i = some b → b.isRom = true := by
    intro i b hg
    rw [getH_hs] at hg
    split at hg
    · cases hg; rfl
    · exact h.rom i b hg
  refine ⟨⟨fun i b hi hg => ?_, fun i j bi bj ti tj hi hj hgi hgj _ _ _ => .inr ⟨hrom _ _ hgi, hrom _ _ hgj⟩, h1.hr.fresh, fun i hi => ?_⟩, hrom⟩
  · rw [getH_hs] at hg
    split at hg
    · rename_i hi2
      subst hi2
      cases hg
      refine ⟨_, by simp [putF]; rfl, ?_⟩
      exact ⟨c', e, m, hb, rfl, rfl, rfl, hle, VL.mono hle2 hv⟩
    · exact h1.hr.blk i b hi hg
  · rw [getH_hs, if_neg (by omega)]; exact h.hr.top i (by omega)

theorem exists_list {α : Type} {p : Nat → α → Prop} : ∀ {n : Nat}, (∀ i, i < n → ∃ a, p i a) → ∃ xs : List α, xs.length = n ∧ ∀ i a, xs[i]? = some a → p i a
  | 0, _ => ⟨[], rfl, fun i a h => by simp at h⟩
  | n + 1, h => by
    obtain ⟨xs, h1, h2⟩ := exists_list (n := n) (p := p) fun i hi => h i (by omega)
    obtain ⟨a, ha⟩ := h n (by omega)
    refine ⟨xs ++ [a], by simp [h1], fun i b hb => ?_⟩
    by_cases hi : i < n
    · rw [List.getElem?_append_left (by omega)] at hb; exact h2 i b hb
    · have : i = n := by
        have := (List.getElem?_eq_some_iff.mp hb).1
        simp at this; omega
      subst this
      rw [List.getElem?_append_right (by omega), h1, Nat.sub_self] at hb
      simp at hb; subst hb; exact ha
theorem flat_rows {α : Type} {f : α → List Value} {sz : Nat} (hf : ∀ a, (f a).length = sz) : ∀ (xs : List α) (l : List Value), (∀ i a, xs[i]? = some a → (l.drop (i * sz)).take sz = f a) → l.take (xs.length * sz) = xs.flatMap f
  | [], l, _ => by simp
  | a :: xs, l, h => by
    have h0 : l.take sz = f a := by simpa using h 0 a rfl
    have ih := flat_rows hf xs (l.drop sz) fun i b hb => by
      have := h (i + 1) b (by simpa using hb)
      rw [List.drop_drop]
      rw [Nat.add_mul, Nat.one_mul, Nat.add_comm] at this
      exact this
    rw [List.length_cons, Nat.add_mul, Nat.one_mul, Nat.add_comm, List.take_add, h0, ih]; rfl
theorem flat_length {α : Type} {f : α → List Value} {sz : Nat} (hf : ∀ a, (f a).length = sz) (xs : List α) : (xs.flatMap f).length = xs.length * sz := by
  induction xs with
  | nil => simp
  | cons a xs ih => simp [hf, ih, Nat.add_mul]; omega

section
variable {X : Type} {enc : TypeId × Value → X} {P : Program} {w : World} {base : Nat} {spare : Nat → Bool} {held : Bool}

theorem cells_at {a : Addr} {c' : Array Value} {e : TypeId} {m : Nat × Nat} (hb : w.heap[a.block]? = some (.cells c' e m)) (hs : a.spot = none) {k sz : Nat} {cs : List Value} (h : w.cells? base (a.add k) sz = some cs) :
    (c'.toList.drop (a.off + k)).take sz = cs := by
  obtain ⟨_, hl, hc⟩ := World.cells?_some h
  apply List.ext_getElem?
  intro i
  rw [List.getElem?_take]
  split
  · rename_i hi
    rw [← hc i hi, List.getElem?_drop]
    have hadd : ∀ (b : Addr) (n : Nat), b.spot = none → b.add n = ⟨b.block, b.off + n, none⟩ := by
      intro b n hn
      unfold Addr.add
      split
      · rename_i h0
        subst h0
        cases b; simp at hn; subst hn; rfl
      · rfl
    rw [hadd a k hs, hadd _ i rfl]
    simp [World.cell?, hb, Nat.add_assoc]
  · rw [List.getElem?_eq_none (by omega)]

/-- A slice whose elements' cells are plain. -/
theorem In.slice {α : Type} {f : α → List Value} {Pr : α → Prop} {sz : Nat} {F : FM} {H : Heap} {nx : Nat} (hi : In w F H nx) {t e : TypeId} {A : Option Addr} {len cap b0 fuel : Nat} {r : Reach} {x : DataW X × List MemPlace}
    (ht : P.underlying t = some (.slice e)) (hsz : P.cellsOf e = sz) (hf : ∀ a, (f a).length = sz) (hok : Cell.ok P w r b0 t (.slice A len cap)) (htr : DataW.trod enc P w base spare held fuel t [.slice A len cap] = some x)
    (helem : ∀ n cs y, DataW.trod enc P w base spare held n e cs = some y → ∃ a, f a = cs ∧ Pr a) (hflat : ∀ a, (f a).all flat1 = true) :
    ∃ (F' : FM) (H' : Heap) (nx' : Nat) (A' : Option Addr) (xs : List α), In w F' H' nx' ∧ F.le F' ∧ VR F' (.slice A' len cap) (.slice A len cap) ∧ xs.length = len ∧ (∀ a ∈ xs, Pr a) ∧ Sl H' nx' A' (xs.flatMap f) ∧ Ext H nx H' nx' ∧ len ≤ maxLen := by
  rcases DataW.trod_slice ht htr with ⟨h0, _⟩ | ⟨a, len', cap', elems, rest, n, _, h0, _, _, hl, hm, hlen, hel, _, _⟩
  · simp at h0
    obtain ⟨rfl, rfl, rfl⟩ := h0
    exact ⟨F, H, nx, none, [], hi, fun _ _ h => h, .sliceN _ _, rfl, by simp, fun i v h => by simp at h, Ext.refl _ _, Nat.zero_le _⟩
  · simp at h0
    obtain ⟨rfl, rfl, rfl⟩ := h0
    have hspot : a.spot = none := by
      simp only [Cell.ok, ht] at hok
      exact hok.2.2.2.1
    obtain ⟨c', ety, m, hb⟩ : ∃ c' ety m, w.heap[a.block]? = some (.cells c' ety m) := by
      simp only [Cell.ok, ht] at hok
      obtain ⟨_, _, _, _, row, cells, hsh, _⟩ := hok
      unfold World.shape? at hsh
      split at hsh
      · exact ⟨_, _, _, by assumption⟩
      · cases hsh
    obtain ⟨xs, hx1, hx2⟩ : ∃ xs : List α, xs.length = len ∧ ∀ i y, xs[i]? = some y → (c'.toList.drop (a.off + i * sz)).take sz = f y ∧ Pr y := by
      refine exists_list fun i hil => ?_
      have h1 := hel i hil
      rw [List.getElem?_eq_getElem (by omega)] at h1
      obtain ⟨cs, h2, h3⟩ := Option.bind_eq_some_iff.mp h1
      obtain ⟨y, rfl, hy⟩ := helem _ _ _ h3
      rw [hsz] at h2
      exact ⟨y, cells_at hb hspot h2, hy⟩
    have hPr : ∀ y ∈ xs, Pr y := fun y hy => by
      obtain ⟨i, hil, rfl⟩ := List.getElem_of_mem hy
      exact (hx2 i _ (List.getElem?_eq_getElem hil)).2
    have hrows : (c'.toList.drop a.off).take (len * sz) = xs.flatMap f := by
      rw [← hx1]
      exact flat_rows hf xs _ fun i y hy => by rw [List.drop_drop]; exact (hx2 i y hy).1
    have hlenF := flat_length hf xs
    by_cases hz : xs.flatMap f = []
    · refine ⟨putF F nx ⟨a.block, a.off, 0, 0, 0⟩, H, nx + 1, some ⟨nx, 0, none⟩, xs, hi.name _, putF_le hi _, ?_, hx1, hPr, fun i v h => by rw [hz] at h; simp at h, Ext.self (by omega), by omega⟩
      have := VR.slice (F := putF F nx ⟨a.block, a.off, 0, 0, 0⟩) (b := nx) (o := 0) (n := len) (c := cap) (c' := cap) (t := ⟨a.block, a.off, 0, 0, 0⟩) (by simp [putF]) (.inl rfl)
      have ha : a = ⟨a.block, a.off + 0, none⟩ := by cases a; simp at hspot; subst hspot; rfl
      rw [ha]; exact this
    · have hle : a.off + (xs.flatMap f).length ≤ c'.size := by
        have h1 := congrArg List.length hrows
        simp only [List.length_take, List.length_drop, Array.length_toList] at h1
        have h2 : 0 < (xs.flatMap f).length := List.length_pos_iff.mpr hz
        omega
      have hvl : VL F (xs.flatMap f) ((c'.toList.drop a.off).take (xs.flatMap f).length) := by
        rw [hlenF, hx1, hrows]
        refine flatL_refl F _ ?_
        rw [List.all_eq_true]
        intro v hv
        obtain ⟨y, _, hy⟩ := List.mem_flatMap.mp hv
        exact List.all_eq_true.mp (hflat y) v hy
      refine ⟨_, _, _, some ⟨nx, 0, none⟩, xs, hi.row hb hle hvl, putF_le hi _, ?_, hx1, hPr, fun i v h => ⟨nx, 0, xs.flatMap f, rfl, by omega, by rw [rowOf, getH_same]; rfl, by rw [Nat.zero_add]; exact h⟩, (Ext.refl H nx).new _ (Nat.le_refl _) (by omega), by omega⟩
      have := VR.slice (F := putF F nx ⟨a.block, a.off, (xs.flatMap f).length, 0, c'.size⟩) (b := nx) (o := 0) (n := len) (c := cap) (c' := cap) (t := ⟨a.block, a.off, (xs.flatMap f).length, 0, c'.size⟩) (by simp [putF]) (.inl rfl)
      have ha : a = ⟨a.block, a.off + 0, none⟩ := by cases a; simp at hspot; subst hspot; rfl
      rw [ha]; exact this

/-- Behind the call: what the arguments hold reads as it did. -/
theorem trodAll_below (hl : laidOutB P = true) {W W' : World} (hb : RowKit.Below W.heap.size W W') : ∀ (ts : List TypeId) (vs : List Value) (ds : List (DataW X)) (ps : List MemPlace), (∀ t ∈ ts, P.readableRec t = true ∧ t < P.types.size) →
    DataW.TrodAll enc P W 0 (fun _ => true) true ts vs ds ps → (∀ x ∈ ps, x.block < W.heap.size) → DataW.TrodAll enc P W' 0 (fun b => decide (b < W.heap.size)) true ts vs ds ps
  | [], [], [], ps, _, h, _ => h
  | t :: ts, v :: vs, d :: ds, ps, ht, ⟨p, q, h1, h2, e⟩, hlt => by
    subst e
    refine ⟨p, q, ?_, trodAll_below hl hb ts vs ds q (fun u hu => ht u (List.mem_cons_of_mem _ hu)) h2 fun x hx => hlt x (List.mem_append_right _ hx), rfl⟩
    obtain ⟨h3, h4⟩ := ht t List.mem_cons_self
    exact RowKit.Below.trod hl h3 h4 h1 hb fun x hx => hlt x (List.mem_append_left _ hx)

theorem post_of_below {f : Func} {s : ChangeSpec} {apart fresh handsOn : Bool} {W W' : World} {args : Array Value} {v : Value} {ds gs : List (DataW X)} {before pa pv : List MemPlace}
    (hW : DataW.Whole enc P f.params.toList s.vars apart W args.toList ds gs before) (hb : RowKit.Below W.heap.size W W')
    (hres : ∀ (b : Nat) (sp : Nat → Bool) (hd : Bool), DataW.TrodAll enc P W' b sp hd f.resultTypes.toList (v.resultList f.resultTypes.size) (s.fn X (ds ++ gs)).results [])
    (hargs : DataW.TrodAll enc P W' 0 (fun b => decide (b < W.heap.size)) true f.params.toList args.toList (s.fn X (ds ++ gs)).args pa)
    (hvars : DataW.TrodVars enc P W' (fun b => decide (b < W.heap.size)) s.vars (s.fn X (ds ++ gs)).vars pv) : s.post enc P f apart fresh handsOn false W args v W' :=
  ⟨ds, gs, before, [], pa, pv, hW, hres _ _ _, hargs, hvars, hb.frame _, fun h => by cases h⟩
end
end Go.Clo

set_option linter.unusedSimpArgs false
set_option linter.unusedVariables false
set_option linter.unusedSectionVars false
namespace Go.Proofs.Ytaieijjfabbfeaa
open Go.Clo

theorem pow_le_key {key v : Nat} (h : key.testBit v = false) (h2 : 2 ^ v ≤ key) : ∃ w, v < w ∧ key.testBit w = true := by
  obtain ⟨i, hi, hb⟩ := Nat.exists_ge_and_testBit_of_ge_two_pow h2
  refine ⟨i, ?_, hb⟩
  rcases Nat.lt_or_eq_of_le hi with g | g
  · exact g
  · subst g; rw [h] at hb; cases hb
theorem wrong30 {n free v : Nat} {b : Bag} (hn : n ≤ 32) (hv : v < n) (hk : b.key < 4294967296) (H : Heap) (nx : Nat) :
    Ans Try.prog 30 [.int .i64 (n : Int), .int .i64 (free : Int), .int .i64 (v : Int), bagV b] H nx fun r H' nx' => r = .int .i64 (bcode n free v b) ∧ Ext H nx H' nx' := by
  obtain ⟨var, key, par⟩ := b
  dsimp only at hk
  refine spec30 ?_
  unfold F30
  have hE : Ext H nx (hs H nx (some (.cells [.int .i64 var, .int .u32 (key : Int), .int .i64 par] 0))) (nx + 1) := (Ext.refl H nx).new _ (Nat.le_refl _) (by omega)
  simp only [bagV, bagC]
  simp (disch := first | omega | assumption | exact shr_lt (by assumption) | exact ndiff32 (by assumption) | exact below_lt (by omega) | fail) only [wBin_lss, wBin_neq, wGuard_false, wFld_eq, wNew_eq, dBox_agg, oneCells, wLd_none, ldP_cells, cellP_one, getH_same, forceV_eq, Option.elim_some, List.getElem?_cons_zero, List.getElem?_cons_succ, Yld.val, if_true, Nat.zero_add, Nat.add_zero, wBin_add64]
  refine wJoin_rule (fun L H' nx' => L = [.bool (decide (var ≠ v ∨ key.testBit v = true))] ∧ (hs H nx (some (.cells [.int .i64 var, .int .u32 (key : Int), .int .i64 par] 0))) = H' ∧ nx + 1 = nx') ?_ ?_
  · intro j hj
    by_cases h1 : var = v
    · have d1 : decide (var ≠ v) = false := by simp [h1]
      simp (disch := first | omega | assumption | exact shr_lt (by assumption) | exact ndiff32 (by assumption) | exact below_lt (by omega) | fail) only [if_false, Bool.false_eq_true, d1]
      refine wCall_rule (has29 hk _ _) ?_
      rintro _ _ _ ⟨rfl, rfl, rfl⟩
      exact hj _ _ _ ⟨by simp [h1], rfl, rfl⟩
    · have d1 : decide (var ≠ v) = true := by simp [h1]
      simp (disch := first | omega | assumption | exact shr_lt (by assumption) | exact ndiff32 (by assumption) | exact below_lt (by omega) | fail) only [if_true, d1]
      exact hj _ _ _ ⟨by simp [h1], rfl, rfl⟩
  rintro L _ _ ⟨rfl, rfl, rfl⟩
  by_cases h1 : var ≠ v ∨ key.testBit v = true
  · simp (disch := first | omega | assumption | exact shr_lt (by assumption) | exact ndiff32 (by assumption) | exact below_lt (by omega) | fail) only [List.getD_cons_zero, wIf_bool, decide_true, if_true, h1]
    exact ⟨by rw [bcode, if_pos (h1.imp id .inl)], hE⟩
  simp (disch := first | omega | assumption | exact shr_lt (by assumption) | exact ndiff32 (by assumption) | exact below_lt (by omega) | fail) only [List.getD_cons_zero, wIf_bool, decide_false, if_false, Bool.false_eq_true, h1]
  have hnb : key.testBit v = false := by simpa using fun h => h1 (.inr h)
  refine wLoop_rule (m := 32 - n) (fun m L H' nx' => ∃ w : Nat, m + w = 32 ∧ n ≤ w ∧ L = [.int .i64 (w : Int)] ∧ (∀ u, n ≤ u → u < w → key.testBit u = false) ∧ (hs H nx (some (.cells [.int .i64 var, .int .u32 (key : Int), .int .i64 par] 0))) = H' ∧ nx + 1 = nx') ?_ ⟨n, by omega, Nat.le_refl _, rfl, fun u a b => by omega, rfl, rfl⟩
  rintro m ih L _ _ ⟨w, hm, hnw, rfl, hbits, rfl, rfl⟩ hih
  by_cases hw : w < 32
  · have hw' : (w : Int) < 32 := by omega
    simp (disch := first | omega | assumption | exact shr_lt (by assumption) | exact ndiff32 (by assumption) | exact below_lt (by omega) | fail) only [List.getD_cons_zero, wBin_lss, wIf_bool, ldP_cells, cellP_one, getH_same, Option.elim_some, List.getElem?_cons_zero, List.getElem?_cons_succ, decide_true, if_true, wBin_add64, hw']
    refine wCall_rule (has29 hk _ _) ?_
    rintro _ _ _ ⟨rfl, rfl, rfl⟩
    cases hb : key.testBit w with
    | true =>
      simp (disch := first | omega | assumption | exact shr_lt (by assumption) | exact ndiff32 (by assumption) | exact below_lt (by omega) | fail) only [wIf_bool, if_true]
      exact ⟨by rw [bcode, if_pos (.inr (.inr (ge_of_bit hnw hb)))], hE⟩
    | false =>
      simp (disch := first | omega | assumption | exact shr_lt (by assumption) | exact ndiff32 (by assumption) | exact below_lt (by omega) | fail) only [wIf_bool, if_false, Bool.false_eq_true]
      refine hih (m - 1) _ _ _ (by omega) ⟨w + 1, by omega, by omega, by simp, fun u a b => ?_, rfl, rfl⟩
      by_cases huw : u = w
      · subst huw; exact hb
      · exact hbits u a (by omega)
  have hw' : ¬ (w : Int) < 32 := by omega
  have hkn : key < 2 ^ n := lt_of_bits hk fun u a b => hbits u a (by omega)
  have h1' : ¬ (var ≠ v ∨ key.testBit v = true ∨ 2 ^ n ≤ key) := by
    rintro (h | h | h)
    · exact h1 (.inl h)
    · exact h1 (.inr h)
    · omega
  simp (disch := first | omega | assumption | exact shr_lt (by assumption) | exact ndiff32 (by assumption) | exact below_lt (by omega) | fail) only [List.getD_cons_zero, wBin_lss, wIf_bool, ldP_cells, cellP_one, getH_same, Option.elim_some, List.getElem?_cons_zero, List.getElem?_cons_succ, decide_false, if_false, Bool.false_eq_true, wBin_add64, hw']
  refine wLoop_rule (m := n - (v + 1)) (fun m L H' nx' => ∃ u : Nat, m + u = n ∧ v < u ∧ L = [.int .i64 (u : Int)] ∧ (v < free → ∀ q, v < q → q < u → key.testBit q = false) ∧ (hs H nx (some (.cells [.int .i64 var, .int .u32 (key : Int), .int .i64 par] 0))) = H' ∧ nx + 1 = nx') ?_ ⟨v + 1, by omega, by omega, by simp, fun _ q a b => by omega, rfl, rfl⟩
  rintro m2 ih2 L2 _ _ ⟨u, hm2, hvu, rfl, hst, rfl, rfl⟩ hih2
  simp (disch := first | omega | assumption | exact shr_lt (by assumption) | exact ndiff32 (by assumption) | exact below_lt (by omega) | fail) only [List.getD_cons_zero, wBin_lss, wGuard_true, wBin_add64]
  by_cases hc : u < n ∧ v < free
  · have c1 : (u : Int) < (n : Int) := by omega
    have c2 : (v : Int) < (free : Int) := by omega
    simp (disch := first | omega | assumption | exact shr_lt (by assumption) | exact ndiff32 (by assumption) | exact below_lt (by omega) | fail) only [List.getD_cons_zero, wBin_lss, wBin_gtr, wBin_eql, wBin_neq, wIf_bool, wGuard_true, wGuard_false, ldP_cells, cellP_one, getH_same, Option.elim_some, List.getElem?_cons_zero, List.getElem?_cons_succ, decide_true, if_true, if_false, Bool.false_eq_true, u32_eq_zero, u32_ne_zero, wJoin_eq, c1, c2]
    refine wCall_rule (has29 hk _ _) ?_
    rintro _ _ _ ⟨rfl, rfl, rfl⟩
    cases hb : key.testBit u with
    | true =>
      simp (disch := first | omega | assumption | exact shr_lt (by assumption) | exact ndiff32 (by assumption) | exact below_lt (by omega) | fail) only [wIf_bool, if_true]
      refine ⟨?_, hE⟩
      have : v < free ∧ 2 ^ v ≤ key := ⟨hc.2, ge_of_bit (by omega) hb⟩
      rw [bcode, if_neg h1', if_pos this]
    | false =>
      simp (disch := first | omega | assumption | exact shr_lt (by assumption) | exact ndiff32 (by assumption) | exact below_lt (by omega) | fail) only [wIf_bool, if_false, Bool.false_eq_true]
      refine hih2 (m2 - 1) _ _ _ (by omega) ⟨u + 1, by omega, by omega, by simp, fun hf q a b => ?_, rfl, rfl⟩
      by_cases hqu : q = u
      · subst hqu; exact hb
      · exact hst hf q a (by omega)
  have h2 : ¬ (v < free ∧ 2 ^ v ≤ key) := by
    rintro ⟨hf, hp⟩
    obtain ⟨q, hq, hqb⟩ := pow_le_key hnb hp
    have hqn : q < n := by
      rcases Nat.lt_or_ge q n with g | g
      · exact g
      · rw [Nat.testBit_lt_two_pow (Nat.lt_of_lt_of_le hkn (Nat.pow_le_pow_right (n := 2) (by omega) g))] at hqb; cases hqb
    rw [hst hf q hq (by omega)] at hqb; cases hqb
  refine wJoin_rule (fun L H' nx' => L = [.bool false] ∧ (hs H nx (some (.cells [.int .i64 var, .int .u32 (key : Int), .int .i64 par] 0))) = H' ∧ nx + 1 = nx') ?_ ?_
  · intro j hj
    by_cases c1 : (u : Int) < (n : Int)
    · have c2 : ¬ (v : Int) < (free : Int) := by omega
      simp (disch := first | omega | assumption | exact shr_lt (by assumption) | exact ndiff32 (by assumption) | exact below_lt (by omega) | fail) only [decide_true, decide_false, if_true, c1, c2]
      exact hj _ _ _ ⟨rfl, rfl, rfl⟩
    · simp (disch := first | omega | assumption | exact shr_lt (by assumption) | exact ndiff32 (by assumption) | exact below_lt (by omega) | fail) only [decide_false, if_false, Bool.false_eq_true, c1]
      exact hj _ _ _ ⟨rfl, rfl, rfl⟩
  rintro L _ _ ⟨rfl, rfl, rfl⟩
  simp (disch := first | omega | assumption | exact shr_lt (by assumption) | exact ndiff32 (by assumption) | exact below_lt (by omega) | fail) only [List.getD_cons_zero, wBin_lss, wBin_gtr, wBin_eql, wBin_neq, wIf_bool, wGuard_true, wGuard_false, ldP_cells, cellP_one, getH_same, Option.elim_some, List.getElem?_cons_zero, List.getElem?_cons_succ, if_false, Bool.false_eq_true, u32_eq_zero, u32_ne_zero]
  have fin28 : ((key = 0 ∧ par ≠ -1) ∨ (key ≠ 0 ∧ (par < 0 ∨ (n : Int) ≤ par ∨ key.testBit par.toNat = false))) → Value.int .i64 28 = .int .i64 (bcode n free v ⟨var, key, par⟩) := fun h => by rw [bcode, if_neg h1', if_neg h2, if_pos h]
  have fin0 : ¬ ((key = 0 ∧ par ≠ -1) ∨ (key ≠ 0 ∧ (par < 0 ∨ (n : Int) ≤ par ∨ key.testBit par.toNat = false))) → Value.int .i64 0 = .int .i64 (bcode n free v ⟨var, key, par⟩) := fun h => by rw [bcode, if_neg h1', if_neg h2, if_neg h]
  by_cases h3 : key = 0
  · have d3 : decide (key = 0) = true := by simp [h3]
    have d3' : decide (key ≠ 0) = false := by simp [h3]
    by_cases h4 : par = -1
    · have d4 : decide (par ≠ -1) = false := by simp [h4]
      simp (disch := first | omega | assumption | exact shr_lt (by assumption) | exact ndiff32 (by assumption) | exact below_lt (by omega) | fail) only [List.getD_cons_zero, wIf_bool, if_true, if_false, Bool.false_eq_true, wJoin_eq, d3, d3', d4]
      exact ⟨fin0 (by simp [h3, h4]), hE⟩
    · have d4 : decide (par ≠ -1) = true := by simp [h4]
      simp (disch := first | omega | assumption | exact shr_lt (by assumption) | exact ndiff32 (by assumption) | exact below_lt (by omega) | fail) only [List.getD_cons_zero, wIf_bool, if_true, if_false, Bool.false_eq_true, wJoin_eq, d3, d3', d4]
      exact ⟨fin28 (by simp [h3, h4]), hE⟩
  have d3 : decide (key = 0) = false := by simp [h3]
  have d3' : decide (key ≠ 0) = true := by simp [h3]
  by_cases h4 : par < 0
  · simp (disch := first | omega | assumption | exact shr_lt (by assumption) | exact ndiff32 (by assumption) | exact below_lt (by omega) | fail) only [List.getD_cons_zero, wIf_bool, decide_true, if_true, if_false, Bool.false_eq_true, wJoin_eq, d3, d3', h4]
    exact ⟨fin28 (by simp [h3, h4]), hE⟩
  by_cases h5 : 31 < par
  · simp (disch := first | omega | assumption | exact shr_lt (by assumption) | exact ndiff32 (by assumption) | exact below_lt (by omega) | fail) only [List.getD_cons_zero, wIf_bool, decide_true, decide_false, if_true, if_false, Bool.false_eq_true, wJoin_eq, d3, d3', h4, h5]
    exact ⟨fin28 (.inr ⟨h3, .inr (.inl (by omega))⟩), hE⟩
  obtain ⟨p, rfl⟩ := Int.eq_ofNat_of_zero_le (show 0 ≤ par by omega)
  simp (disch := first | omega | assumption | exact shr_lt (by assumption) | exact ndiff32 (by assumption) | exact below_lt (by omega) | fail) only [List.getD_cons_zero, decide_false, if_true, if_false, Bool.false_eq_true, wJoin_eq, d3, d3', h4, h5]
  refine wCall_rule (has29 hk _ _) ?_
  rintro _ _ _ ⟨rfl, rfl, rfl⟩
  cases h6 : key.testBit p with
  | true =>
    simp (disch := first | omega | assumption | exact shr_lt (by assumption) | exact ndiff32 (by assumption) | exact below_lt (by omega) | fail) only [wIf_bool, wUn_not, if_false, Bool.false_eq_true, Bool.not_true]
    refine ⟨fin0 ?_, hE⟩
    have hpn : p < n := by
      rcases Nat.lt_or_ge p n with g | g
      · exact g
      · rw [Nat.testBit_lt_two_pow (Nat.lt_of_lt_of_le hkn (Nat.pow_le_pow_right (n := 2) (by omega) g))] at h6; cases h6
    simp [h3, h6]; omega
  | false =>
    simp (disch := first | omega | assumption | exact shr_lt (by assumption) | exact ndiff32 (by assumption) | exact below_lt (by omega) | fail) only [wIf_bool, wUn_not, if_true, Bool.not_false]
    exact ⟨fin28 (by simp [h3, h6]), hE⟩

/-- The vertices of a bag. -/
def setOf (b : Bag) : Nat := if b.var < 0 ∨ 32 ≤ b.var then b.key else b.key ||| 2 ^ b.var.toNat
theorem pow32 {n : Nat} (h : n < 32) : 2 ^ n < 4294967296 := Nat.lt_of_lt_of_le (Nat.pow_lt_pow_right (by omega) h) (by decide)
theorem setOf_lt {b : Bag} (h : b.key < 4294967296) : setOf b < 4294967296 := by
  unfold setOf
  split
  · exact h
  · exact or32 h (pow32 (by omega))
theorem set20 {b : Bag} (hk : b.key < 4294967296) (H : Heap) (nx : Nat) : Ans Try.prog 20 [bagV b] H nx fun r H' nx' => r = .int .u32 (setOf b : Int) ∧ Ext H nx H' nx' := by
  obtain ⟨var, key, par⟩ := b
  dsimp only at hk
  refine spec20 ?_
  unfold F20
  have hE : ∀ m, nx + 1 ≤ m → Ext H nx (hs H nx (some (.cells [.int .i64 var, .int .u32 (key : Int), .int .i64 par] 0))) m := fun m hm => (Ext.refl H nx).new _ (Nat.le_refl _) (by omega)
  simp only [bagV, bagC]
  by_cases h1 : var < 0
  · simp (disch := first | omega | assumption | exact shr_lt (by assumption) | exact ndiff32 (by assumption) | exact below_lt (by omega) | fail) only [List.getD_cons_zero, wBin_lss, wBin_geq, wIf_bool, wGuard_false, wFld_eq, wNew_eq, dBox_agg, oneCells, wLd_none, ldP_cells, cellP_one, getH_same, forceV_eq, forceN_eq, Option.elim_some, List.getElem?_cons_zero, List.getElem?_cons_succ, Yld.val, decide_true, if_true, Nat.zero_add, Nat.add_zero, and_true, true_and, or_false, wJoin_eq, h1]
    exact ⟨by rw [setOf, if_pos (.inl h1)], hE _ (by omega)⟩
  by_cases h2 : 32 ≤ var
  · simp (disch := first | omega | assumption | exact shr_lt (by assumption) | exact ndiff32 (by assumption) | exact below_lt (by omega) | fail) only [List.getD_cons_zero, wBin_lss, wBin_geq, wIf_bool, wGuard_false, wFld_eq, wNew_eq, dBox_agg, oneCells, wLd_none, ldP_cells, cellP_one, getH_same, forceV_eq, forceN_eq, Option.elim_some, List.getElem?_cons_zero, List.getElem?_cons_succ, Yld.val, decide_true, decide_false, if_true, if_false, Bool.false_eq_true, Nat.zero_add, Nat.add_zero, and_true, true_and, or_false, wJoin_eq, h1, h2]
    exact ⟨by rw [setOf, if_pos (.inr h2)], hE _ (by omega)⟩
  obtain ⟨p, rfl⟩ := Int.eq_ofNat_of_zero_le (show 0 ≤ var by omega)
  have hp := pow32 (show p < 32 by omega)
  simp (disch := first | omega | assumption | exact shr_lt (by assumption) | exact ndiff32 (by assumption) | exact below_lt (by omega) | fail) only [List.getD_cons_zero, wBin_lss, wBin_geq, wIf_bool, wGuard_false, wFld_eq, wNew_eq, dBox_agg, oneCells, wLd_none, ldP_cells, cellP_one, getH_same, forceV_eq, forceN_eq, Option.elim_some, List.getElem?_cons_zero, List.getElem?_cons_succ, Yld.val, decide_false, if_true, if_false, Bool.false_eq_true, Nat.zero_add, Nat.add_zero, and_true, true_and, or_false, wBin_or32, wBin_shl32, wJoin_eq, h1, h2]
  exact ⟨by rw [setOf, if_neg (by dsimp only; omega)]; rfl, hE _ (by omega)⟩
theorem set32 {b : Bag} (hk : b.key < 4294967296) {v : Nat} (hv : b.var = v) (hv32 : v < 32) (H : Heap) (nx : Nat) : Ans Try.prog 32 [bagV b] H nx fun r H' nx' => r = .int .u32 (setOf b : Int) ∧ Ext H nx H' nx' := by
  obtain ⟨var, key, par⟩ := b
  dsimp only at hk hv
  subst hv
  refine spec32 ?_
  unfold F32
  have hE : ∀ m, nx + 1 ≤ m → Ext H nx (hs H nx (some (.cells [.int .i64 (v : Int), .int .u32 (key : Int), .int .i64 par] 0))) m := fun m hm => (Ext.refl H nx).new _ (Nat.le_refl _) (by omega)
  simp only [bagV, bagC]
  have hp := pow32 hv32
  simp (disch := first | omega | assumption | exact shr_lt (by assumption) | exact ndiff32 (by assumption) | exact below_lt (by omega) | fail) only [wFld_eq, wNew_eq, dBox_agg, oneCells, wLd_none, ldP_cells, cellP_one, getH_same, forceV_eq, forceN_eq, Option.elim_some, List.getElem?_cons_zero, List.getElem?_cons_succ, Yld.val, if_true, Nat.zero_add, Nat.add_zero, and_true, true_and, or_false, wBin_or32, wBin_shl32]
  exact ⟨by rw [setOf, if_neg (by dsimp only; omega)]; rfl, hE _ (by omega)⟩
theorem of10 (N : Int) (A : Option Addr) (len cap : Nat) (H : Heap) (nx : Nat) : Ans Try.prog 10 [gv N A len cap] H nx fun r H' nx' => r = gv N A len cap ∧ Ext H nx H' nx' := by
  refine spec10 ?_
  unfold F10
  simp (disch := first | omega | assumption | exact shr_lt (by assumption) | exact ndiff32 (by assumption) | exact below_lt (by omega) | fail) only [wFld_eq, wNew_eq, dBox_agg, oneCells, wLd_none, wLd_2, ldP_cells, cellP_one, getH_same, getH_ne, forceV_eq, Option.elim_some, List.getElem?_cons_zero, List.getElem?_cons_succ, Yld.val, if_true, Nat.zero_add, Nat.add_zero]
  have hb : ∀ k, wBuild [.int .i64 0, .slice none 0 0] [(0, 1), (1, 1)] [(0, .int .i64 N), (1, .slice A len cap)] k = k (gv N A len cap) := fun k => rfl
  rw [hb]
  simp (disch := first | omega | assumption | exact shr_lt (by assumption) | exact ndiff32 (by assumption) | exact below_lt (by omega) | fail) only [oneCells, ldP_cells, getH_same, if_true, Nat.zero_add, true_and, and_self, wSt_agg, stP_cells, List.length_cons, List.length_nil, Nat.le_refl, Nat.reduceAdd, putL_lit2, cellP_lit2]
  exact (((Ext.self (by omega)).hs (by omega)).hs (by omega)).hs (by omega)
end Go.Proofs.Ytaieijjfabbfeaa

set_option linter.unusedSimpArgs false
set_option linter.unusedVariables false
set_option linter.unusedSectionVars false
namespace Go.Proofs.Ytaieijjfabbfeaa
open Go.Clo

theorem bagsC_take {bs : List Bag} {i : Nat} {b : Bag} (h : bs[i]? = some b) : bagsC (bs.take (i + 1)) = bagsC (bs.take i) ++ bagC b := by
  have e : bs.take (i + 1) = bs.take i ++ [b] := by
    rw [List.take_add_one, h]; rfl
  rw [e]; simp [bagsC]
theorem take_all {α : Type} {l : List α} {i : Nat} (h : ¬ i < l.length) : l.take i = l := List.take_of_length_le (by omega)
theorem of12 (A : Option Addr) (bs : List Bag) (cap : Nat) (H : Heap) (nx : Nat) (hS : Sl H nx A (bagsC bs)) (hl : bs.length ≤ 40) :
    Ans Try.prog 12 [.slice A bs.length cap] H nx fun r H' nx' => Acc nx H' nx' 3 r bs.length (bagsC bs) ∧ Ext H nx H' nx' := by
  refine spec12 ?_
  unfold F12
  simp (disch := first | omega | assumption | exact shr_lt (by assumption) | exact ndiff32 (by assumption) | exact below_lt (by omega) | fail) only [wLen_slice, wNew_eq, wLd_3, forceV_eq, Yld.val]
  refine wLoop_rule (m := bs.length) (fun m L H' nx' => ∃ (i : Nat) (v : Value), m + i = bs.length ∧ L = [v, .int .i64 (i : Int)] ∧ Acc nx H' nx' 3 v i (bagsC (bs.take i)) ∧ Ext H nx H' nx') ?_ ⟨0, _, rfl, rfl, Acc.nil _ _ _ _, Ext.refl _ _⟩
  rintro m ih L H1 nx1 ⟨i, v, hm, rfl, hA, hE⟩ hih
  simp (disch := first | omega | assumption | exact shr_lt (by assumption) | exact ndiff32 (by assumption) | exact below_lt (by omega) | fail) only [List.getD_cons_zero, List.getD_cons_succ, wBin_lss, wIf_bool, wBin_add64]
  by_cases hi : i < bs.length
  · have hi' : (i : Int) < (bs.length : Int) := by omega
    obtain ⟨b, hb⟩ : ∃ b, bs[i]? = some b := ⟨_, List.getElem?_eq_getElem hi⟩
    obtain ⟨B, o, row, rfl, hB, hrow, hget⟩ := (hS.ext hE).open (i := i * 3) (by rw [bagsC_length]; omega)
    have hg := fun j v hv => hget _ v (bagsC_get hb j v hv)
    have g0 : row[o + i * 3]? = some (.int .i64 b.var) := hg 0 _ rfl
    have g1 : row[o + i * 3 + 1]? = some (.int .u32 (b.key : Int)) := hg 1 _ rfl
    have g2 : row[o + i * 3 + 2]? = some (.int .i64 b.par) := hg 2 _ rfl
    have hle := hE.le
    simp (disch := first | omega | assumption | exact shr_lt (by assumption) | exact ndiff32 (by assumption) | exact below_lt (by omega) | fail) only [oneCells, wLd_3, ldP_cells, getH_same, decide_true, if_true, Nat.zero_add, true_and, and_self, wIdx_slice, Int.toNat_natCast, wSt_agg, stP_cells, List.length_cons, List.length_nil, Nat.le_refl, Nat.reduceAdd, hi', ldP_row hrow, cellP_3 g0 g1 g2, putL_lit3, cellP_lit3]
    have hbs : ∀ (x y z : Value) k, oneCells [x, y, z] = true → dBsl 1 3 [.int .i64 0, .int .u32 0, .int .i64 0] [(0, .agg ⟨[x, y, z]⟩)] k = k [x, y, z] := by
      intro x y z k h
      have e : dBsl 1 3 [.int .i64 0, .int .u32 0, .int .i64 0] [(0, .agg ⟨[x, y, z]⟩)] k = cond (oneCells [x, y, z]) (spine [x, y, z] k) False := rfl
      rw [e, h]; rfl
    rw [hbs _ _ _ _ rfl]
    have hE2 : Ext H1 nx1 (hs (hs (hs H1 nx1 (some (.cells [.int .i64 0, .int .u32 0, .int .i64 0] 0))) nx1 (some (.cells [.int .i64 b.var, .int .u32 (b.key : Int), .int .i64 b.par] 0))) (nx1 + 1) (some (.cells [.int .i64 b.var, .int .u32 (b.key : Int), .int .i64 b.par] 0))) (nx1 + 1 + 1) :=
      (((Ext.self (by omega)).hs (by omega)).hs (by omega)).hs (by omega)
    refine wApp_acc (H0 := H) (l := [.int .i64 b.var, .int .u32 (b.key : Int), .int .i64 b.par]) (m := 1) (by omega) (hA.ext hE2) (src_new (getH_same _ _ _) rfl (by omega)) (by omega) rfl (by omega) (by omega) (hE.trans hE2) (by omega) ?_
    intro v' H' hA' hE' _
    refine hih (m - 1) _ _ _ (by omega) ⟨i + 1, v', by omega, by simp, ?_, hE'⟩
    rw [bagsC_take hb]; exact hA'
  · have hi' : ¬ (i : Int) < (bs.length : Int) := by omega
    simp (disch := first | omega | assumption | exact shr_lt (by assumption) | exact ndiff32 (by assumption) | exact below_lt (by omega) | fail) only [decide_false, if_false, Bool.false_eq_true, hi']
    have : i = bs.length := by omega
    subst this
    rw [take_all (by omega)] at hA
    exact ⟨hA, hE⟩

/-! The plain answer of Check. -/
def badAt (n free : Nat) : List Bag → Nat → Int
  | [], _ => 0
  | b :: bs, v => if bcode n free v b ≠ 0 then bcode n free v b else badAt n free bs (v + 1)
theorem badAt_drop {n free : Nat} : ∀ {bs : List Bag} {i v : Nat}, (∀ j b, j < i → bs[j]? = some b → bcode n free (v + j) b = 0) → badAt n free bs v = badAt n free (bs.drop i) (v + i)
  | bs, 0, v, _ => rfl
  | [], i + 1, v, _ => rfl
  | b :: bs, i + 1, v, h => by
    have h0 := h 0 b (by omega) rfl
    simp only [badAt, List.drop_succ_cons]
    rw [if_neg (by simpa using h0), badAt_drop (i := i) fun j b' hj hb => by have := h (j + 1) b' (by omega) (by simpa using hb); rw [← this]; congr 1; omega]
    congr 1; omega
theorem badAt_here {n free : Nat} {bs : List Bag} {i : Nat} {b : Bag} (h : ∀ j b, j < i → bs[j]? = some b → bcode n free j b = 0) (hb : bs[i]? = some b) (hc : bcode n free i b ≠ 0) : badAt n free bs 0 = bcode n free i b := by
  rw [badAt_drop (i := i) (fun j b' hj hb' => by rw [Nat.zero_add]; exact h j b' hj hb'), Nat.zero_add]
  have e : bs.drop i = b :: bs.drop (i + 1) := by
    have hi := lt_len hb
    rw [List.drop_eq_getElem_cons hi]
    rw [List.getElem?_eq_getElem hi] at hb
    cases hb; rfl
  rw [e]; simp [badAt, hc]
theorem badAt_none {n free : Nat} {bs : List Bag} (h : ∀ j b, bs[j]? = some b → bcode n free j b = 0) : badAt n free bs 0 = 0 := by
  rw [badAt_drop (i := bs.length) (fun j b' hj hb' => by rw [Nat.zero_add]; exact h j b' hb')]
  simp [badAt]
theorem badAt_zero {n free : Nat} {bs : List Bag} (h : badAt n free bs 0 = 0) : ∀ j b, bs[j]? = some b → bcode n free j b = 0 := by
  have key : ∀ (bs : List Bag) (v : Nat), badAt n free bs v = 0 → ∀ j b, bs[j]? = some b → bcode n free (v + j) b = 0 := by
    intro bs
    induction bs with
    | nil => intro v _ j b hb; simp at hb
    | cons b0 bs ih =>
      intro v hv j b hb
      simp only [badAt] at hv
      split at hv
      · rename_i hc; exact absurd hv hc
      · rename_i hc
        cases j with
        | zero => simp at hb; subst hb; simpa using hc
        | succ j =>
          have := ih (v + 1) hv j b (by simpa using hb)
          rw [← this]; congr 1; omega
  intro j b hb
  have := key bs 0 h j b hb
  rwa [Nat.zero_add] at this

/-- One step up; k steps up. -/
def stepUp (bs : List Bag) (u : Int) : Int := if u < 0 then u else (bs[u.toNat]?.map (·.par)).getD (-1)
def up (bs : List Bag) : Nat → Int → Int
  | 0, u => u
  | k + 1, u => stepUp bs (up bs k u)
theorem up_neg {bs : List Bag} {u : Int} {k : Nat} (h : up bs k u < 0) : ∀ m, k ≤ m → up bs m u < 0 := by
  intro m hm
  induction m with
  | zero => have : k = 0 := by omega
            subst this; exact h
  | succ m ih =>
    by_cases e : k = m + 1
    · subst e; exact h
    · have := ih (by omega)
      simp only [up, stepUp, this, if_true]
theorem up_step {bs : List Bag} {u : Int} {k p : Nat} {b : Bag} (h : up bs k u = p) (hb : bs[p]? = some b) : up bs (k + 1) u = b.par := by
  simp only [up, stepUp, h]
  rw [if_neg (by omega)]; simp [hb]
theorem up_add (bs : List Bag) (u : Int) (j : Nat) : ∀ k, up bs (j + k) u = up bs k (up bs j u)
  | 0 => rfl
  | k + 1 => by rw [← Nat.add_assoc]; simp only [up]; rw [up_add bs u j k]
/-- Of n + 1 numbers less than n two are alike. -/
theorem pigeon : ∀ (n : Nat) (f : Nat → Nat), (∀ i, i ≤ n → f i < n) → ∃ i j, i < j ∧ j ≤ n ∧ f i = f j
  | 0, f, h => by have := h 0 (by omega); omega
  | n + 1, f, h => by
    by_cases hex : ∃ i, i ≤ n ∧ f i = f (n + 1)
    · obtain ⟨i, hi, he⟩ := hex
      exact ⟨i, n + 1, by omega, by omega, he⟩
    · have hno : ∀ i, i ≤ n → f i ≠ f (n + 1) := fun i hi he => hex ⟨i, hi, he⟩
      obtain ⟨i, j, h1, h2, h3⟩ := pigeon n (fun i => if f i = n then f (n + 1) else f i) (fun i hi => by
        have a := h i (by omega)
        have b := h (n + 1) (by omega)
        have c := hno i hi
        split <;> omega)
      refine ⟨i, j, h1, by omega, ?_⟩
      have a := hno i (by omega)
      have b := hno j h2
      split at h3 <;> split at h3 <;> omega
theorem int_lt_or_ge (a b : Int) : a < b ∨ b ≤ a := by omega
/-- A way up of n + 1 bags never ends. -/
theorem up_more {bs : List Bag} {n : Nat} (hn : bs.length = n) (hp : ∀ b ∈ bs, b.par < n) {v : Nat} (hv : v < n) (h : 0 ≤ up bs n v) : 0 ≤ up bs (n + 1) v := by
  rcases int_lt_or_ge (up bs (n + 1) v) 0 with hneg | hge
  · exfalso
    have pos : ∀ i, i ≤ n → 0 ≤ up bs i v := fun i hi => by
      rcases int_lt_or_ge (up bs i v) 0 with g | g
      · have := up_neg g n hi; omega
      · exact g
    have lt : ∀ i, i ≤ n → up bs i v < n := fun i hi => by
      cases i with
      | zero => simp only [up]; omega
      | succ i =>
        have h1 := pos i (by omega)
        have h2 := pos (i + 1) hi
        simp only [up, stepUp] at h2 ⊢
        rw [if_neg (by omega)] at h2 ⊢
        cases hb : bs[(up bs i v).toNat]? with
        | none => rw [hb] at h2; simp at h2
        | some b => simp; exact hp b (List.mem_of_getElem? hb)
    obtain ⟨i, j, h1, h2, h3⟩ := pigeon n (fun i => (up bs i v).toNat) (fun i hi => by have := pos i hi; have := lt i hi; omega)
    have he : up bs i v = up bs j v := by
      have a := pos i (by omega)
      have b := pos j h2
      omega
    -- the end comes as soon behind i as behind j
    have e1 : up bs (j + (n + 1 - j)) v = up bs (i + (n + 1 - j)) v := by rw [up_add, up_add, he]
    rw [show j + (n + 1 - j) = n + 1 by omega] at e1
    have := pos (i + (n + 1 - j)) (by omega)
    omega
  · exact hge
end Go.Proofs.Ytaieijjfabbfeaa

set_option linter.unusedSimpArgs false
set_option linter.unusedVariables false
set_option linter.unusedSectionVars false
namespace Go.Proofs.Ytaieijjfabbfeaa
open Go.Clo

/-- All vertices of s are of t. -/
def inside (s t : Nat) : Prop := ∀ i, s.testBit i = true → t.testBit i = true
/-- The key of a bag lies in its parent's bag. -/
def fits1 (bs : List Bag) (b : Bag) : Prop := 0 ≤ b.par → ∀ q, bs[b.par.toNat]? = some q → inside b.key (q.key ||| 2 ^ b.par.toNat)
def covers (bs : List Bag) (e : Nat) : Prop := e = 0 ∨ ∃ b ∈ bs, inside e (setOf b)
open Classical in
noncomputable def ccode (n free : Nat) (es : List Nat) (bs : List Bag) : Int :=
  if bs.length ≠ n then 6 else if badAt n free bs 0 ≠ 0 then badAt n free bs 0
  else if ∃ v : Nat, v < n ∧ 0 ≤ up bs n v then 16
  else if ∃ b ∈ bs, ¬ fits1 bs b then 28
  else if ∃ e ∈ es, ¬ covers bs e then 9 else 0
theorem ndiff_zero {a b : Nat} : ndiff a b = 0 ↔ inside a b := by
  constructor
  · intro h i hi
    have := ndiff_bit a b i
    rw [h, hi] at this
    simpa using this
  · intro h
    apply Nat.eq_of_testBit_eq
    intro i
    rw [ndiff_bit]
    cases ha : a.testBit i with
    | false => simp
    | true => simp [h i ha]
theorem ndiff2 {k p q : Nat} : ndiff (ndiff k (2 ^ p)) q = 0 ↔ inside k (q ||| 2 ^ p) := by
  rw [ndiff_zero]
  constructor
  · intro h i hi
    rw [Nat.testBit_or]
    by_cases hp : i = p
    · subst hp; rw [Nat.testBit_two_pow_self]; simp
    · have := h i (by rw [ndiff_bit, hi, Nat.testBit_two_pow_of_ne (fun e => hp e.symm)]; rfl)
      rw [this]; rfl
  · intro h i hi
    rw [ndiff_bit, Bool.and_eq_true] at hi
    have := h i hi.1
    rw [Nat.testBit_or] at this
    simp at hi
    rw [hi.2] at this
    simpa using this
/-- Bags that are right each for itself. -/
def Right (n : Nat) (bs : List Bag) : Prop := ∀ (v : Nat) (b : Bag), bs[v]? = some b → b.var = v ∧ b.key < 2 ^ n ∧ ((b.key = 0 ∧ b.par = -1) ∨ (b.key ≠ 0 ∧ 0 ≤ b.par ∧ b.par < n ∧ b.key.testBit b.par.toNat = true))
theorem bcode_zero {n free v : Nat} {b : Bag} (h : bcode n free v b = 0) : b.var = v ∧ b.key.testBit v = false ∧ b.key < 2 ^ n ∧ ¬ (v < free ∧ 2 ^ v ≤ b.key) ∧ ((b.key = 0 ∧ b.par = -1) ∨ (b.key ≠ 0 ∧ 0 ≤ b.par ∧ b.par < n ∧ b.key.testBit b.par.toNat = true)) := by
  unfold bcode at h
  split at h
  · cases h
  · rename_i h1
    split at h
    · cases h
    · rename_i h2
      split at h
      · cases h
      · rename_i h3
        rw [not_or, not_or] at h1
        refine ⟨Decidable.of_not_not h1.1, by simpa using h1.2.1, by omega, h2, ?_⟩
        rw [not_or] at h3
        by_cases hk : b.key = 0
        · refine .inl ⟨hk, Decidable.of_not_not fun hp => h3.1 ⟨hk, hp⟩⟩
        · refine .inr ⟨hk, ?_, ?_, ?_⟩
          · apply Decidable.of_not_not; intro hp; exact h3.2 ⟨hk, .inl (by omega)⟩
          · apply Decidable.of_not_not; intro hp; exact h3.2 ⟨hk, .inr (.inl (by omega))⟩
          · cases hb : b.key.testBit b.par.toNat with
            | true => rfl
            | false => exact absurd ⟨hk, .inr (.inr hb)⟩ h3.2
theorem right_of {n free : Nat} {bs : List Bag} (h : badAt n free bs 0 = 0) : Right n bs := fun v b hb => by
  obtain ⟨h1, _, h3, _, h5⟩ := bcode_zero (badAt_zero h v b hb)
  exact ⟨h1, h3, h5⟩
theorem fcode_inv {N free : Int} {es : List Nat} (h : fcode N free es = 0) : ∃ n f : Nat, N = n ∧ free = f ∧ n ≤ 32 ∧ f ≤ n ∧ es.length ≤ 64 ∧ ∀ e ∈ es, e < 2 ^ n := by
  unfold fcode at h
  split at h
  · rename_i hg; exact absurd h hg
  · rename_i hg
    split at h
    · cases h
    · rename_i hf
      have hg : gcode N es = 0 := Decidable.of_not_not hg
      unfold gcode at hg
      split at hg
      · cases hg
      · rename_i h1
        split at hg
        · cases hg
        · rename_i h2
          split at hg
          · cases hg
          · rename_i h3
            obtain ⟨n, rfl⟩ := Int.eq_ofNat_of_zero_le (show 0 ≤ N by omega)
            obtain ⟨f, rfl⟩ := Int.eq_ofNat_of_zero_le (show 0 ≤ free by omega)
            refine ⟨n, f, rfl, rfl, by omega, by omega, by omega, fun e he => ?_⟩
            rcases Nat.lt_or_ge e (2 ^ n) with g | g
            · exact g
            · exact absurd ⟨e, he, by simpa using g⟩ h3

noncomputable def chk (N free : Int) (es : List Nat) (bs : List Bag) : Int := if fcode N free es ≠ 0 then fcode N free es else ccode N.toNat free.toNat es bs

theorem check8 (N free : Int) (A : Option Addr) (es : List Nat) (cap : Nat) (B : Option Addr) (bs : List Bag) (capB : Nat) (H : Heap) (nx : Nat) (hS : Sl H nx A (u32s es)) (hsm : Small es) (hB : Sl H nx B (bagsC bs)) (hkey : KeyOK bs) :
    Ans Try.prog 8 [gv N A es.length cap, .int .i64 free, .slice B bs.length capB] H nx fun r H' nx' => r = .int .i64 (chk N free es bs) ∧ Ext H nx H' nx' := by
  refine spec8 ?_
  unfold F8
  have hE1 : Ext H nx (hs H nx (some (.cells [.int .i64 N, .slice A es.length cap] 0))) (nx + 1) := (Ext.refl H nx).new _ (Nat.le_refl _) (by omega)
  simp (disch := first | omega | assumption | exact shr_lt (by assumption) | exact ndiff32 (by assumption) | exact below_lt (by omega) | fail) only [wFld_eq, wLen_slice, wNew_eq, dBox_agg, oneCells, wLd_none, wLd_2, wLd_3, ldP_cells, getH_same, forceV_eq, forceN_eq, Yld.val, if_true, Nat.zero_add, Nat.add_zero, and_true, or_false, cellP_lit2]
  refine wCall_rule (checkFree27 N free A es cap _ _ (hS.ext hE1) hsm) ?_
  rintro _ H2 nx2 ⟨rfl, hE2⟩
  have hg := hE2.get nx (by omega)
  rw [getH_same] at hg
  have hE := hE1.trans hE2
  by_cases h0 : fcode N free es = 0
  case neg =>
    have d0 : decide (fcode N free es ≠ 0) = true := by simp [h0]
    simp (disch := first | omega | assumption | exact shr_lt (by assumption) | exact ndiff32 (by assumption) | exact below_lt (by omega) | fail) only [wBin_neq, wIf_bool, if_true, d0]
    exact ⟨by rw [chk, if_pos h0], hE⟩
  have d0 : decide (fcode N free es ≠ 0) = false := by simp [h0]
  obtain ⟨n, f, rfl, rfl, hn, hf, hle, hes⟩ := fcode_inv h0
  have hchk : chk n f es bs = ccode n f es bs := by rw [chk, if_neg (by simpa using h0)]; rfl
  rw [hchk]
  simp (disch := first | omega | assumption | exact shr_lt (by assumption) | exact ndiff32 (by assumption) | exact below_lt (by omega) | fail) only [wBin_neq, wIf_bool, ldP_cells, cellP_one, Option.elim_some, List.getElem?_cons_zero, if_false, Bool.false_eq_true, d0, hg]
  by_cases hlen : bs.length = n
  case neg =>
    have d1 : decide ((bs.length : Int) ≠ n) = true := by simp; omega
    simp (disch := first | omega | assumption | exact shr_lt (by assumption) | exact ndiff32 (by assumption) | exact below_lt (by omega) | fail) only [if_true, d1]
    exact ⟨by rw [ccode, if_pos hlen], hE⟩
  have d1 : decide ((bs.length : Int) ≠ n) = false := by simp; omega
  simp (disch := first | omega | assumption | exact shr_lt (by assumption) | exact ndiff32 (by assumption) | exact below_lt (by omega) | fail) only [if_false, Bool.false_eq_true, d1]
  -- the bags, one by one
  refine wLoop_rule (m := bs.length) (fun m L H' nx' => ∃ i : Nat, m + i = bs.length ∧ L = [.int .i64 (i : Int)] ∧ (∀ (j : Nat) (b : Bag), j < i → bs[j]? = some b → bcode n f j b = 0) ∧ Ext H2 nx2 H' nx') ?_ ⟨0, rfl, rfl, fun j b h => by omega, Ext.refl _ _⟩
  rintro m ih L H3 nx3 ⟨i, hm, rfl, hst, hE3⟩ hih
  have hg3 := (hE3.get nx (by have := hE2.le; omega)).trans hg
  have hEE := hE.trans hE3
  by_cases hi : i < bs.length
  · have hi' : (i : Int) < (bs.length : Int) := by omega
    obtain ⟨b, hb⟩ : ∃ b, bs[i]? = some b := ⟨_, List.getElem?_eq_getElem hi⟩
    obtain ⟨B, o, row, rfl, hBn, hrow, hget⟩ := (hB.ext hEE).open (i := i * 3) (by rw [bagsC_length]; omega)
    have hgg := fun j v hv => hget _ v (bagsC_get hb j v hv)
    have g0 : row[o + i * 3]? = some (.int .i64 b.var) := hgg 0 _ rfl
    have g1 : row[o + i * 3 + 1]? = some (.int .u32 (b.key : Int)) := hgg 1 _ rfl
    have g2 : row[o + i * 3 + 2]? = some (.int .i64 b.par) := hgg 2 _ rfl
    have hnx3 : nx < nx3 := by have := hE2.le; have := hE3.le; omega
    simp (disch := first | omega | assumption | exact shr_lt (by assumption) | exact ndiff32 (by assumption) | exact below_lt (by omega) | fail) only [List.getD_cons_zero, wBin_lss, wIf_bool, oneCells, wLd_3, ldP_cells, cellP_one, getH_same, getH_ne, Option.elim_some, List.getElem?_cons_zero, decide_true, if_true, Nat.zero_add, true_and, and_self, wBin_add64, wIdx_slice, Int.toNat_natCast, wSt_agg, stP_cells, List.length_cons, List.length_nil, Nat.le_refl, Nat.reduceAdd, hi', ldP_row hrow, cellP_3 g0 g1 g2, putL_lit3, cellP_lit3, hg3]
    refine wCall_rule (checkBag28 (b := b) hn (by omega) (hkey.get hb) _ _) ?_
    rintro _ H6 nx6 ⟨rfl, hE6⟩
    have hE36 : Ext H3 nx3 H6 nx6 := ((((Ext.self (by omega)).hs (Nat.le_refl _)).hs (Nat.le_refl _)) : Ext H3 nx3 _ (nx3 + 1)).trans hE6
    by_cases hc : bcode n f i b = 0
    · have d2 : decide (bcode n f i b ≠ 0) = false := by simp [hc]
      simp (disch := first | omega | assumption | exact shr_lt (by assumption) | exact ndiff32 (by assumption) | exact below_lt (by omega) | fail) only [wBin_neq, wIf_bool, if_false, Bool.false_eq_true, d2]
      refine hih (m - 1) _ _ _ (by omega) ⟨i + 1, by omega, by simp, fun j b' hj hb' => ?_, hE3.trans hE36⟩
      by_cases hji : j = i
      · subst hji; rw [hb] at hb'; cases hb'; exact hc
      · exact hst j b' (by omega) hb'
    · have d2 : decide (bcode n f i b ≠ 0) = true := by simp [hc]
      simp (disch := first | omega | assumption | exact shr_lt (by assumption) | exact ndiff32 (by assumption) | exact below_lt (by omega) | fail) only [wBin_neq, wIf_bool, if_true, d2]
      refine ⟨?_, hEE.trans hE36⟩
      have hbad := badAt_here hst hb hc
      rw [ccode, if_neg (by simpa using hlen), hbad, if_pos hc]
  have hi' : ¬ (i : Int) < (bs.length : Int) := by omega
  have hbad : badAt n f bs 0 = 0 := badAt_none fun j b hb => hst j b (by have := lt_len hb; omega) hb
  have hright := right_of hbad
  simp (disch := first | omega | assumption | exact shr_lt (by assumption) | exact ndiff32 (by assumption) | exact below_lt (by omega) | fail) only [List.getD_cons_zero, wBin_lss, wIf_bool, decide_false, if_false, Bool.false_eq_true, wBin_add64, hi']
  clear hih
  -- the ways up
  refine wLoop_rule (m := bs.length) (fun m L H' nx' => ∃ i : Nat, m + i = bs.length ∧ L = [.int .i64 (i : Int)] ∧ (∀ j : Nat, j < i → up bs n j < 0) ∧ H3 = H' ∧ nx3 = nx') ?_ ⟨0, rfl, rfl, fun j h => by omega, rfl, rfl⟩
  rintro m1 ih1 L1 _ _ ⟨v, hm1, rfl, hups, rfl, rfl⟩ hih1
  by_cases hv : v < bs.length
  · have hv' : (v : Int) < (bs.length : Int) := by omega
    simp (disch := first | omega | assumption | exact shr_lt (by assumption) | exact ndiff32 (by assumption) | exact below_lt (by omega) | fail) only [List.getD_cons_zero, wBin_lss, wIf_bool, decide_true, if_true, wBin_add64, hv']
    refine wLoop_rule (m := bs.length) (fun m L H' nx' => ∃ (s : Nat), m + s = bs.length ∧ L = [.int .i64 (s : Int), .int .i64 (up bs s v)] ∧ H3 = H' ∧ nx3 = nx') ?_ ⟨0, rfl, rfl, rfl, rfl⟩
    rintro m2 ih2 L2 _ _ ⟨s, hm2, rfl, rfl, rfl⟩ hih2
    simp (disch := first | omega | assumption | exact shr_lt (by assumption) | exact ndiff32 (by assumption) | exact below_lt (by omega) | fail) only [List.getD_cons_zero, List.getD_cons_succ, wBin_gtr, wBin_geq, wIf_bool, wBin_add64]
    by_cases hup : 0 ≤ up bs s v
    · by_cases hs : s + 1 > bs.length
      · have hs' : (bs.length : Int) < (s : Int) + 1 := by omega
        simp (disch := first | omega | assumption | exact shr_lt (by assumption) | exact ndiff32 (by assumption) | exact below_lt (by omega) | fail) only [decide_true, if_true, hup, hs']
        refine ⟨?_, hEE⟩
        have : s = n := by omega
        subst this
        rw [ccode, if_neg (by simpa using hlen), if_neg (by simpa using hbad), if_pos ⟨v, by omega, hup⟩]
      · have hs' : ¬ (bs.length : Int) < (s : Int) + 1 := by omega
        obtain ⟨p, hp⟩ := Int.eq_ofNat_of_zero_le hup
        have hpn : p < bs.length := by
          cases s with
          | zero => simp only [up] at hp; omega
          | succ s =>
            have h1 : 0 ≤ up bs s v := by
              rcases int_lt_or_ge (up bs s v) 0 with g | g
              · have := up_neg g (s + 1) (by omega); omega
              · exact g
            simp only [up, stepUp] at hp
            rw [if_neg (by omega)] at hp
            cases hq : bs[(up bs s v).toNat]? with
            | none => rw [hq] at hp; simp at hp
            | some q =>
              rw [hq] at hp
              simp at hp
              rcases (hright _ q hq).2.2 with ⟨_, h⟩ | ⟨_, _, h, _⟩ <;> omega
        obtain ⟨b, hb⟩ : ∃ b, bs[p]? = some b := ⟨_, List.getElem?_eq_getElem hpn⟩
        obtain ⟨B, o, row, rfl, hBn, hrow, hget⟩ := (hB.ext hEE).open (i := p * 3) (by rw [bagsC_length]; omega)
        have hgg := fun j v hv => hget _ v (bagsC_get hb j v hv)
        have g2 : row[o + p * 3 + 2]? = some (.int .i64 b.par) := hgg 2 _ rfl
        rw [hp] at hup ⊢
        simp (disch := first | omega | assumption | exact shr_lt (by assumption) | exact ndiff32 (by assumption) | exact below_lt (by omega) | fail) only [wFld_eq, wLd_none, cellP_one, Option.elim_some, decide_true, decide_false, if_true, if_false, Bool.false_eq_true, wIdx_slice, Int.toNat_natCast, hup, hs', ldP_row hrow, g2]
        refine hih2 (m2 - 1) _ _ _ (by omega) ⟨s + 1, by omega, ?_, rfl, rfl⟩
        rw [up_step hp hb]; simp
    · simp (disch := first | omega | assumption | exact shr_lt (by assumption) | exact ndiff32 (by assumption) | exact below_lt (by omega) | fail) only [decide_false, if_false, Bool.false_eq_true, hup]
      refine hih1 (m1 - 1) _ _ _ (by omega) ⟨v + 1, by omega, by simp, fun j hj => ?_, rfl, rfl⟩
      by_cases hjv : j = v
      · subst hjv; exact up_neg (k := s) (by omega) n (by omega)
      · exact hups j (by omega)
  have hv' : ¬ (v : Int) < (bs.length : Int) := by omega
  have hno : ¬ ∃ v : Nat, v < n ∧ 0 ≤ up bs n v := by
    rintro ⟨u, hu, h⟩; have := hups u (by omega); omega
  simp (disch := first | omega | assumption | exact shr_lt (by assumption) | exact ndiff32 (by assumption) | exact below_lt (by omega) | fail) only [List.getD_cons_zero, wBin_lss, wIf_bool, decide_false, if_false, Bool.false_eq_true, wBin_add64, hv']
  clear hih1
  -- the keys in the parents' bags
  refine wLoop_rule (m := bs.length) (fun m L H' nx' => ∃ i : Nat, m + i = bs.length ∧ L = [.int .i64 (i : Int)] ∧ (∀ (j : Nat) (b : Bag), j < i → bs[j]? = some b → fits1 bs b) ∧ Ext H3 nx3 H' nx') ?_ ⟨0, rfl, rfl, fun j b h => by omega, Ext.refl _ _⟩
  rintro m4 ih4 L4 H4 nx4 ⟨i4, hm4, rfl, hst4, hE4⟩ hih4
  have hEE4 := hEE.trans hE4
  have hg4 := (hE4.get nx (by have := hE2.le; have := hE3.le; omega)).trans hg3
  by_cases hi4 : i4 < bs.length
  · have hi4' : (i4 : Int) < (bs.length : Int) := by omega
    obtain ⟨b, hb⟩ : ∃ b, bs[i4]? = some b := ⟨_, List.getElem?_eq_getElem hi4⟩
    obtain ⟨B, o, row, rfl, hBn, hrow, hget⟩ := (hB.ext hEE4).open (i := i4 * 3) (by rw [bagsC_length]; omega)
    have hgg := fun j v hv => hget _ v (bagsC_get hb j v hv)
    have g0 : row[o + i4 * 3]? = some (.int .i64 b.var) := hgg 0 _ rfl
    have g1 : row[o + i4 * 3 + 1]? = some (.int .u32 (b.key : Int)) := hgg 1 _ rfl
    have g2 : row[o + i4 * 3 + 2]? = some (.int .i64 b.par) := hgg 2 _ rfl
    have hk := hkey.get hb
    simp (disch := first | omega | assumption | exact shr_lt (by assumption) | exact ndiff32 (by assumption) | exact below_lt (by omega) | fail) only [List.getD_cons_zero, wBin_lss, wBin_geq, wIf_bool, wGuard_true, oneCells, wLd_3, ldP_cells, cellP_one, getH_same, Option.elim_some, List.getElem?_cons_zero, List.getElem?_cons_succ, decide_true, if_true, Nat.zero_add, and_true, true_and, and_self, wBin_add64, wIdx_slice, Int.toNat_natCast, wSt_agg, stP_cells, List.length_cons, List.length_nil, Nat.le_refl, Nat.reduceAdd, hi4', ldP_row hrow, cellP_3 g0 g1 g2, putL_lit3]
    have hE45 : ∀ q, nx4 + 1 ≤ q → Ext H4 nx4 (hs (hs H4 nx4 (some (.cells [.int .i64 0, .int .u32 0, .int .i64 0] 0))) nx4 (some (.cells [.int .i64 b.var, .int .u32 (b.key : Int), .int .i64 b.par] 0))) q := fun q hq => ((Ext.self (by omega)).hs (Nat.le_refl _)).hs (Nat.le_refl _)
    by_cases hpar : 0 ≤ b.par
    · obtain ⟨p, hp⟩ := Int.eq_ofNat_of_zero_le hpar
      have hpn : p < n := by
        rcases (hright _ b hb).2.2 with ⟨_, h⟩ | ⟨_, _, h, _⟩ <;> omega
      obtain ⟨q, hq⟩ : ∃ q, bs[p]? = some q := ⟨_, List.getElem?_eq_getElem (by omega)⟩
      have hkq := hkey.get hq
      have k1 : row[o + p * 3 + 1]? = some (.int .u32 (q.key : Int)) := by
        have := fun j v hv => hget _ v (bagsC_get hq j v hv)
        exact this 1 _ rfl
      have hrow' : rowOf (hs (hs H4 nx4 (some (.cells [.int .i64 0, .int .u32 0, .int .i64 0] 0))) nx4 (some (.cells [.int .i64 b.var, .int .u32 (b.key : Int), .int .i64 b.par] 0))) B = some row := by rw [(hE45 _ (Nat.le_refl _)).row hBn]; exact hrow
      have hp32 := pow32 (show p < 32 by omega)
      have hpp : (0 : Int) ≤ (p : Int) := by omega
      rw [hp]
      have hnd := ndiff32 (b := 2 ^ p) hk
      simp (disch := first | omega | assumption | exact shr_lt (by assumption) | exact ndiff32 (by assumption) | exact below_lt (by omega) | fail) only [List.getD_cons_zero, wBin_neq, wIf_bool, wFld_eq, wLd_none, cellP_one, getH_ne, Option.elim_some, decide_true, if_true, true_and, wIdx_slice, Int.toNat_natCast, wBin_andNot32, wBin_shl32, u32_ne_zero, wJoin_eq, hpp, ldP_row hrow, k1]
      have hfit : fits1 bs b ↔ ndiff (ndiff b.key (2 ^ p)) q.key = 0 := by
        rw [ndiff2]
        constructor
        · intro h; have := h hpar q (by rw [hp]; exact hq); rw [hp] at this; exact this
        · intro h _ q' hq'
          rw [hp] at hq' ⊢
          have : q' = q := by
            have h2 : bs[p]? = some q' := hq'
            rw [hq] at h2; cases h2; rfl
          subst this; exact h
      by_cases hz : ndiff (ndiff b.key (2 ^ p)) q.key = 0
      · have d4 : decide (ndiff (ndiff b.key (2 ^ p)) q.key ≠ 0) = false := by simp [hz]
        simp (disch := first | omega | assumption | exact shr_lt (by assumption) | exact ndiff32 (by assumption) | exact below_lt (by omega) | fail) only [if_false, Bool.false_eq_true, d4]
        refine hih4 (m4 - 1) _ _ _ (by omega) ⟨i4 + 1, by omega, by simp, fun j b' hj hb' => ?_, hE4.trans (by rw [← hp]; exact hE45 _ (by omega))⟩
        by_cases hji : j = i4
        · subst hji; rw [hb] at hb'; cases hb'; exact hfit.2 hz
        · exact hst4 j b' (by omega) hb'
      · have d4 : decide (ndiff (ndiff b.key (2 ^ p)) q.key ≠ 0) = true := by simp [hz]
        simp (disch := first | omega | assumption | exact shr_lt (by assumption) | exact ndiff32 (by assumption) | exact below_lt (by omega) | fail) only [if_true, d4]
        refine ⟨?_, hEE4.trans (by rw [← hp]; exact hE45 _ (by omega))⟩
        rw [ccode, if_neg (by simpa using hlen), if_neg (by simpa using hbad), if_neg hno, if_pos ⟨b, List.mem_of_getElem? hb, fun h => hz (hfit.1 h)⟩]
    · simp (disch := first | omega | assumption | exact shr_lt (by assumption) | exact ndiff32 (by assumption) | exact below_lt (by omega) | fail) only [List.getD_cons_zero, wIf_bool, decide_false, if_false, Bool.false_eq_true, wJoin_eq, hpar]
      refine hih4 (m4 - 1) _ _ _ (by omega) ⟨i4 + 1, by omega, by simp, fun j b' hj hb' => ?_, hE4.trans (hE45 _ (by omega))⟩
      by_cases hji : j = i4
      · subst hji; rw [hb] at hb'; cases hb'; exact fun h => absurd h hpar
      · exact hst4 j b' (by omega) hb'
  have hi4' : ¬ (i4 : Int) < (bs.length : Int) := by omega
  have hfits : ¬ ∃ b ∈ bs, ¬ fits1 bs b := by
    rintro ⟨b, hb, h⟩
    obtain ⟨j, hj, rfl⟩ := List.getElem_of_mem hb
    exact h (hst4 j _ (by omega) (List.getElem?_eq_getElem hj))
  simp (disch := first | omega | assumption | exact shr_lt (by assumption) | exact ndiff32 (by assumption) | exact below_lt (by omega) | fail) only [List.getD_cons_zero, wBin_lss, wIf_bool, wLen_slice, ldP_cells, cellP_one, Option.elim_some, List.getElem?_cons_zero, List.getElem?_cons_succ, decide_false, if_false, Bool.false_eq_true, wBin_add64, hi4', hg4]
  clear hih4
  -- the edges
  refine wLoop_rule (m := es.length) (fun m L H' nx' => ∃ i : Nat, m + i = es.length ∧ L = [.int .i64 (i : Int)] ∧ (∀ (j e : Nat), j < i → es[j]? = some e → covers bs e) ∧ Ext H4 nx4 H' nx') ?_ ⟨0, rfl, rfl, fun j b h => by omega, Ext.refl _ _⟩
  rintro m5 ih5 L5 H5 nx5 ⟨i5, hm5, rfl, hst5, hE5⟩ hih5
  have hEE5 := hEE4.trans hE5
  by_cases hi5 : i5 < es.length
  · have hi5' : (i5 : Int) < (es.length : Int) := by omega
    obtain ⟨e, he⟩ : ∃ e, es[i5]? = some e := ⟨_, List.getElem?_eq_getElem hi5⟩
    obtain ⟨A, o, row, rfl, hAn, hrow, hget⟩ := (hS.ext hEE5).open (i := i5) (by rw [u32s_length]; omega)
    have he32 := hsm.get he
    simp (disch := first | omega | assumption | exact shr_lt (by assumption) | exact ndiff32 (by assumption) | exact below_lt (by omega) | fail) only [List.getD_cons_zero, wBin_lss, wBin_eql, wIf_bool, wLd_none, cellP_one, Option.elim_some, decide_true, if_true, wBin_add64, wIdx_slice, Int.toNat_natCast, Nat.mul_one, u32_eq_zero, hi5', ldP_row hrow, hget _ _ (u32s_get he)]
    refine wLoop_rule (m := bs.length) (fun m L H' nx' => ∃ (i : Nat) (c : Bool), m + i = bs.length ∧ L = [.bool c, .int .i64 (i : Int)] ∧ (c = true ↔ e = 0 ∨ ∃ (j : Nat) (b : Bag), j < i ∧ bs[j]? = some b ∧ inside e (setOf b)) ∧ Ext H5 nx5 H' nx') ?_ ⟨0, _, rfl, rfl, by simp, Ext.refl _ _⟩
    rintro m6 ih6 L6 H6 nx6 ⟨i6, c, hm6, rfl, hc, hE6⟩ hih6
    have hEE6 := hEE5.trans hE6
    simp (disch := first | omega | assumption | exact shr_lt (by assumption) | exact ndiff32 (by assumption) | exact below_lt (by omega) | fail) only [List.getD_cons_zero, List.getD_cons_succ, wBin_lss, wIf_bool, wGuard_false, wUn_not, wBin_add64]
    by_cases hi6 : i6 < bs.length
    · have hi6' : (i6 : Int) < (bs.length : Int) := by omega
      obtain ⟨b, hb⟩ : ∃ b, bs[i6]? = some b := ⟨_, List.getElem?_eq_getElem hi6⟩
      obtain ⟨B, o, row, rfl, hBn, hrow, hget⟩ := (hB.ext hEE6).open (i := i6 * 3) (by rw [bagsC_length]; omega)
      have hgg := fun j v hv => hget _ v (bagsC_get hb j v hv)
      have g0 : row[o + i6 * 3]? = some (.int .i64 b.var) := hgg 0 _ rfl
      have g1 : row[o + i6 * 3 + 1]? = some (.int .u32 (b.key : Int)) := hgg 1 _ rfl
      have g2 : row[o + i6 * 3 + 2]? = some (.int .i64 b.par) := hgg 2 _ rfl
      have hk := hkey.get hb
      simp (disch := first | omega | assumption | exact shr_lt (by assumption) | exact ndiff32 (by assumption) | exact below_lt (by omega) | fail) only [oneCells, wLd_3, ldP_cells, getH_same, decide_true, if_true, Nat.zero_add, true_and, and_self, wIdx_slice, Int.toNat_natCast, wSt_agg, stP_cells, List.length_cons, List.length_nil, Nat.le_refl, Nat.reduceAdd, hi6', ldP_row hrow, cellP_3 g0 g1 g2, putL_lit3, cellP_lit3]
      have hE67 : Ext H6 nx6 (hs (hs H6 nx6 (some (.cells [.int .i64 0, .int .u32 0, .int .i64 0] 0))) nx6 (some (.cells [.int .i64 b.var, .int .u32 (b.key : Int), .int .i64 b.par] 0))) (nx6 + 1) := ((Ext.self (by omega)).hs (Nat.le_refl _)).hs (Nat.le_refl _)
      have next : ∀ (c' : Bool) H' nx', (c' = true ↔ c = true ∨ inside e (setOf b)) → Ext H6 nx6 H' nx' → ih6 [.bool c', .int .i64 ((i6 : Int) + 1)] H' nx' := by
        intro c' H' nx' hc' hE'
        refine hih6 (m6 - 1) _ _ _ (by omega) ⟨i6 + 1, c', by omega, by simp, ?_, hE6.trans hE'⟩
        rw [hc', hc]
        constructor
        · rintro ((h | ⟨j, b', h1, h2, h3⟩) | h)
          · exact .inl h
          · exact .inr ⟨j, b', by omega, h2, h3⟩
          · exact .inr ⟨i6, b, by omega, hb, h⟩
        · rintro (h | ⟨j, b', h1, h2, h3⟩)
          · exact .inl (.inl h)
          · by_cases hji : j = i6
            · subst hji; rw [hb] at h2; cases h2; exact .inr h3
            · exact .inl (.inr ⟨j, b', by omega, h2, h3⟩)
      cases c with
      | true =>
        simp (disch := first | omega | assumption | exact shr_lt (by assumption) | exact ndiff32 (by assumption) | exact below_lt (by omega) | fail) only [List.getD_cons_zero, if_true, wJoin_eq]
        exact next true _ _ (by simp) hE67
      | false =>
        simp (disch := first | omega | assumption | exact shr_lt (by assumption) | exact ndiff32 (by assumption) | exact below_lt (by omega) | fail) only [List.getD_cons_zero, if_false, Bool.false_eq_true, wJoin_eq]
        refine wCall_rule (set20 (b := b) hk _ _) ?_
        rintro _ H7 nx7 ⟨rfl, hE7⟩
        have hset := setOf_lt hk
        simp (disch := first | omega | assumption | exact shr_lt (by assumption) | exact ndiff32 (by assumption) | exact below_lt (by omega) | fail) only [wBin_eql, wBin_andNot32, u32_eq_zero]
        exact next _ _ _ (by simp [ndiff_zero]) (hE67.trans hE7)
    · have hi6' : ¬ (i6 : Int) < (bs.length : Int) := by omega
      have hcov : c = true ↔ covers bs e := by
        rw [hc]
        constructor
        · rintro (h | ⟨j, b, _, h2, h3⟩)
          · exact .inl h
          · exact .inr ⟨b, List.mem_of_getElem? h2, h3⟩
        · rintro (h | ⟨b, h2, h3⟩)
          · exact .inl h
          · obtain ⟨j, hj, rfl⟩ := List.getElem_of_mem h2
            exact .inr ⟨j, _, by omega, List.getElem?_eq_getElem hj, h3⟩
      cases c with
      | false =>
        simp (disch := first | omega | assumption | exact shr_lt (by assumption) | exact ndiff32 (by assumption) | exact below_lt (by omega) | fail) only [decide_false, if_true, if_false, Bool.false_eq_true, Bool.not_false, hi6']
        refine ⟨?_, hEE6⟩
        rw [ccode, if_neg (by simpa using hlen), if_neg (by simpa using hbad), if_neg hno, if_neg hfits, if_pos ⟨e, List.mem_of_getElem? he, fun h => by have := hcov.2 h; cases this⟩]
      | true =>
        simp (disch := first | omega | assumption | exact shr_lt (by assumption) | exact ndiff32 (by assumption) | exact below_lt (by omega) | fail) only [decide_false, if_true, if_false, Bool.false_eq_true, Bool.not_true, hi6']
        refine hih5 (m5 - 1) _ _ _ (by omega) ⟨i5 + 1, by omega, by simp, fun j e' hj he' => ?_, hE5.trans hE6⟩
        by_cases hji : j = i5
        · subst hji; rw [he] at he'; cases he'; exact hcov.1 rfl
        · exact hst5 j e' (by omega) he'
  · have hi5' : ¬ (i5 : Int) < (es.length : Int) := by omega
    simp (disch := first | omega | assumption | exact shr_lt (by assumption) | exact ndiff32 (by assumption) | exact below_lt (by omega) | fail) only [List.getD_cons_zero, wBin_lss, wIf_bool, decide_false, if_false, Bool.false_eq_true, wBin_add64, hi5']
    refine ⟨?_, hEE5⟩
    have hcov : ¬ ∃ e ∈ es, ¬ covers bs e := by
      rintro ⟨e, he, h⟩
      obtain ⟨j, hj, rfl⟩ := List.getElem_of_mem he
      exact h (hst5 j _ (by omega) (List.getElem?_eq_getElem hj))
    rw [ccode, if_neg (by simpa using hlen), if_neg (by simpa using hbad), if_neg hno, if_neg hfits, if_neg hcov]
end Go.Proofs.Ytaieijjfabbfeaa
