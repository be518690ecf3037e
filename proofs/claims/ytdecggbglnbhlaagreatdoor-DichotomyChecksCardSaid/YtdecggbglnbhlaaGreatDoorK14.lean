/-
  Plain facts on sets of vertices as numbers.
-/
import GoSem.Claim
import Derived.Laws.BitsAllLaws
set_option linter.unusedSimpArgs false
set_option linter.unusedVariables false
set_option linter.unusedSectionVars false
namespace Go.Proofs.YtdecggbglnbhlaaGreatDoor

theorem pow_le32 {n : Nat} (h : n ≤ 32) : 2 ^ n ≤ 4294967296 := Nat.le_trans (Nat.pow_le_pow_right (by omega) h) (by decide)
theorem pow_pos2 (n : Nat) : 0 < 2 ^ n := Nat.pow_pos (by omega)

theorem below_eq {n : Nat} (h : n ≤ 32) : IntKind.u64.wrap (IntKind.u64.wrap (2 ^ n) - 1) % 4294967296 = ((2 ^ n - 1 : Nat) : Int) := by
  have h1 := pow_le32 h
  have h2 := pow_pos2 n
  have e : ((2 : Int) ^ n) = ((2 ^ n : Nat) : Int) := by simp
  rw [e]
  generalize 2 ^ n = m at *
  simp only [IntKind.wrap, IntKind.signed, IntKind.bits]
  simp
  omega

theorem has_eq {s n : Nat} (hs : s < 4294967296) : (((s : Int) / 2 ^ min n 32).tmod 2 == 1) = s.testBit n := by
  have e : ((2 : Int) ^ min n 32) = ((2 ^ min n 32 : Nat) : Int) := by simp
  rw [e, ← Int.natCast_ediv]
  have key : s / 2 ^ min n 32 = s / 2 ^ n := by
    by_cases h : n ≤ 32
    · rw [Nat.min_eq_left h]
    · rw [Nat.min_eq_right (by omega)]
      have a1 : s / 2 ^ 32 = 0 := Nat.div_eq_of_lt (by simpa using hs)
      have a2 : s / 2 ^ n = 0 := Nat.div_eq_of_lt (Nat.lt_of_lt_of_le hs (by
        have := Nat.pow_le_pow_right (n := 2) (by omega) (show 32 ≤ n by omega)
        simpa using this))
      rw [a1, a2]
  rw [key, Nat.testBit_eq_decide_div_mod_eq]
  generalize s / 2 ^ n = m
  have e2 : ((m : Int).tmod 2) = ((m % 2 : Nat) : Int) := by
    rw [Int.tmod_eq_emod_of_nonneg (by omega)]; omega
  rw [e2, Bool.eq_iff_iff]
  simp
  omega

/-- Set a holds all vertices of set b, up to k. -/
def subTo (a b k : Nat) : Prop := ∀ v, v < k → b.testBit v = true → a.testBit v = true
instance (a b k : Nat) : Decidable (subTo a b k) := by unfold subTo; exact inferInstance
def subB (a b : Nat) : Bool := decide (subTo a b 32)
theorem subTo_zero (a b : Nat) : subTo a b 0 := fun v h => by omega
theorem subTo_succ {a b k : Nat} (h : subTo a b k) (hk : b.testBit k = false ∨ a.testBit k = true) : subTo a b (k + 1) := by
  intro v hv hb
  by_cases e : v = k
  · subst e; rcases hk with hk | hk
    · rw [hk] at hb; cases hb
    · exact hk
  · exact h v (by omega) hb
theorem subB_yes {a b : Nat} (h : subTo a b 32) : subB a b = true := by simp [subB, h]
theorem subB_no {a b k : Nat} (hk : k < 32) (h1 : b.testBit k = true) (h2 : a.testBit k = false) : subB a b = false := by
  have : ¬ subTo a b 32 := fun h => by have := h k hk h1; rw [h2] at this; cases this
  simp [subB, this]

theorem mask_eq {n : Nat} (hn : n ≤ 32) : 4294967295 - (2 ^ n - 1) = (2 ^ (32 - n) - 1) <<< n := by
  rw [Nat.shiftLeft_eq, Nat.sub_mul, ← Nat.pow_add, Nat.sub_add_cancel hn]
  have := pow_pos2 n
  have := pow_le32 hn
  omega
theorem mask_bit {n i : Nat} (hn : n ≤ 32) : (4294967295 - (2 ^ n - 1)).testBit i = decide (n ≤ i ∧ i < 32) := by
  rw [mask_eq hn, Nat.testBit_shiftLeft, Nat.testBit_two_pow_sub_one, Bool.eq_iff_iff]
  simp
  omega
theorem bit_high {e i : Nat} (he : e < 4294967296) (h : e.testBit i = true) : i < 32 := by
  rcases Nat.lt_or_ge i 32 with g | g
  · exact g
  · have : e < 2 ^ i := Nat.lt_of_lt_of_le he (Nat.pow_le_pow_right (n := 2) (by omega) g)
    rw [Nat.testBit_lt_two_pow this] at h
    cases h
theorem andNot_zero {e n : Nat} (he : e < 4294967296) (hn : n ≤ 32) : e &&& (4294967295 - (2 ^ n - 1)) = 0 ↔ e < 2 ^ n := by
  constructor
  · intro h
    rcases Nat.lt_or_ge e (2 ^ n) with g | g
    · exact g
    · obtain ⟨i, hi, hb⟩ := Nat.exists_ge_and_testBit_of_ge_two_pow g
      have h1 : (e &&& (4294967295 - (2 ^ n - 1))).testBit i = true := by
        rw [Nat.testBit_and, hb, mask_bit hn]; simp; exact ⟨hi, bit_high he hb⟩
      rw [h] at h1; simp at h1
  · intro h
    refine Nat.eq_of_testBit_eq fun i => ?_
    rw [Nat.testBit_and, mask_bit hn]
    by_cases hi : n ≤ i
    · have : e.testBit i = false := Nat.testBit_lt_two_pow (Nat.lt_of_lt_of_le h (Nat.pow_le_pow_right (n := 2) (by omega) hi))
      simp [this]
    · simp; omega
theorem below_lt {n : Nat} (hn : n ≤ 32) : 2 ^ n - 1 < 4294967296 := by have := pow_le32 hn; have := pow_pos2 n; omega
theorem andNot_below {e n : Nat} (he : e < 4294967296) (hn : n ≤ 32) : (bits .andNot .u32 (e : Int) ((2 ^ n - 1 : Nat) : Int) != 0) = decide (2 ^ n ≤ e) := by
  rw [u32_andNot_nat e _ he (below_lt hn), Bool.eq_iff_iff]
  have := andNot_zero he hn
  simp only [bne_iff_ne, ne_eq, decide_eq_true_eq]
  omega
end Go.Proofs.YtdecggbglnbhlaaGreatDoor
