/-
  Contracts: below, Has, Contains, the two Checks of a graph.
-/
import Derived.Test.YtaieijjfabbfeaaGA
import Derived.Test.YtaieijjfabbfeaaCloV
import Derived.Test.YtaieijjfabbfeaaP1
set_option linter.unusedSimpArgs false
set_option linter.unusedVariables false
set_option linter.unusedSectionVars false
namespace Go.Proofs.Ytaieijjfabbfeaa
open Go.Clo

/-- A pure answer. -/
def Pure (v : Value) (H : Heap) (nx : Nat) : EP := fun v' H' nx' => v' = v ∧ H = H' ∧ nx = nx'
theorem below_wrap {n : Nat} (h : n ≤ 32) : IntKind.u32.wrap (IntKind.u64.wrap (IntKind.u64.wrap (1 * 2 ^ min n 64) - 1)) = ((2 ^ n - 1 : Nat) : Int) := by
  have h1 := pow_le32 h
  have h2 := pow_pos2 n
  have e : (1 * (2 : Int) ^ min n 64) = ((2 ^ n : Nat) : Int) := by
    have : min n 64 = n := by omega
    simp [this]
  rw [e]
  generalize 2 ^ n = m at *
  simp only [IntKind.wrap, IntKind.signed, IntKind.bits]
  simp
  omega
theorem below_any {n : Nat} (hn : n ≤ 32) (k : VP) : (wBin .shl (.int .u64 1) (.int .i64 (n : Int)) fun t4 => wBin .sub t4 (.int .u64 1) fun t5 => wConv .u32 t5 k) = k (.int .u32 ((2 ^ n - 1 : Nat) : Int)) := by
  have h0 : ¬ (n : Int) < 0 := by omega
  rw [wBin_eq]
  simp only [binV, isShift, shiftV, cond_true, h0, if_false, Option.elim_some, wBin_sub, wConv_eq]
  rw [← below_wrap hn]; rfl
theorem below49 {n : Nat} (hn : n ≤ 32) (H : Heap) (nx : Nat) : Ans Try.prog 49 [.int .i64 (n : Int)] H nx (Pure (.int .u32 ((2 ^ n - 1 : Nat) : Int)) H nx) := by
  refine spec49 ?_
  unfold F49
  simp only [below_any hn, forceV_eq]
  exact ⟨rfl, rfl, rfl⟩
theorem below52 {n : Nat} (hn : n ≤ 32) (H : Heap) (nx : Nat) : Ans Try.prog 52 [.int .i64 (n : Int)] H nx (Pure (.int .u32 ((2 ^ n - 1 : Nat) : Int)) H nx) := by
  refine spec52 ?_
  unfold F52
  simp only [below_any hn, forceV_eq]
  exact ⟨rfl, rfl, rfl⟩
theorem has29 {s n : Nat} (hs : s < 4294967296) (H : Heap) (nx : Nat) : Ans Try.prog 29 [.int .u32 (s : Int), .int .i64 (n : Int)] H nx (Pure (.bool (s.testBit n)) H nx) := by
  refine spec29 ?_
  unfold F29
  simp only [wBin_shr32 _ hs, wBin_rem2 _ (shr_lt hs), wBin_eql, bit_one, forceV_eq]
  exact ⟨rfl, rfl, rfl⟩
theorem contains31 {a b : Nat} (ha : a < 4294967296) (hb : b < 4294967296) (H : Heap) (nx : Nat) : Ans Try.prog 31 [.int .u32 (a : Int), .int .u32 (b : Int)] H nx (Pure (.bool (subB a b)) H nx) := by
  refine spec31 ?_
  unfold F31
  refine wLoop_rule (m := 32) (fun m L H' nx' => ∃ i : Nat, m + i = 32 ∧ L = [.int .i64 (i : Int)] ∧ subTo a b i ∧ H = H' ∧ nx = nx') ?_ ⟨0, rfl, rfl, subTo_zero a b, rfl, rfl⟩
  rintro m ih L _ _ ⟨i, hm, rfl, hst, rfl, rfl⟩ hih
  simp only [List.getD_cons_zero, wBin_lss, wIf_bool]
  by_cases hi : i < 32
  · have h1 : ((i : Int) < 32) := by omega
    simp only [h1, decide_true, if_true]
    refine wJoin_rule (fun L H' nx' => L = [.bool (b.testBit i && !a.testBit i)] ∧ H = H' ∧ nx = nx') ?_ ?_
    · intro j hj
      refine wCall_rule (has29 hb H nx) ?_
      rintro _ _ _ ⟨rfl, rfl, rfl⟩
      simp only [wGuard_true]
      cases hb1 : b.testBit i with
      | false => simp only [Bool.false_eq_true, if_false]; exact hj _ _ _ ⟨by simp [hb1], rfl, rfl⟩
      | true =>
        simp only [if_true]
        refine wCall_rule (has29 ha H nx) ?_
        rintro _ _ _ ⟨rfl, rfl, rfl⟩
        simp only [wUn_not]
        exact hj _ _ _ ⟨by simp [hb1], rfl, rfl⟩
    · rintro L _ _ ⟨rfl, rfl, rfl⟩
      simp only [List.getD_cons_zero, wIf_bool, forceV_eq]
      cases hb1 : b.testBit i && !a.testBit i with
      | true =>
        simp only [if_true]
        rw [Bool.and_eq_true] at hb1
        exact ⟨by rw [subB_no hi hb1.1 (by simpa using hb1.2)], rfl, rfl⟩
      | false =>
        simp only [Bool.false_eq_true, if_false]
        rw [wBin_add64 _ _ _ (by omega) (by omega)]
        refine hih (m - 1) _ _ _ (by omega) ⟨i + 1, by omega, by simp, subTo_succ hst ?_, rfl, rfl⟩
        cases h2 : b.testBit i <;> simp [h2] at hb1 ⊢
        exact hb1
  · have h1 : ¬ ((i : Int) < 32) := by omega
    simp only [h1, decide_false, Bool.false_eq_true, if_false, forceV_eq]
    have : i = 32 := by omega
    subst this
    exact ⟨by rw [subB_yes hst], rfl, rfl⟩
end Go.Proofs.Ytaieijjfabbfeaa
