/-
  The executor as a claim: sets of vertices as numbers.
-/
import Derived.Test.YtdecggbglnbhlaaGreatDoorCloU
set_option linter.unusedSimpArgs false
set_option linter.unusedVariables false
set_option linter.unusedSectionVars false
namespace Go.Clo

/-- The vertices of a that are not of b. -/
def ndiff (a b : Nat) : Nat := a ^^^ (a &&& b)
theorem ndiff_bit (a b i : Nat) : (ndiff a b).testBit i = (a.testBit i && !b.testBit i) := by
  unfold ndiff; rw [Nat.testBit_xor, Nat.testBit_and]; cases a.testBit i <;> cases b.testBit i <;> rfl
theorem ndiff_lt {a b n : Nat} (h : a < 2 ^ n) : ndiff a b < 2 ^ n := Nat.xor_lt_two_pow h (Nat.and_lt_two_pow' _ h)
where
  Nat.and_lt_two_pow' {x n : Nat} (y : Nat) (h : x < 2 ^ n) : x &&& y < 2 ^ n := Nat.lt_of_le_of_lt Nat.and_le_left h
abbrev U32 : Nat := 4294967296
theorem u32_wrap {a : Nat} (h : a < 4294967296) : IntKind.u32.wrap (a : Int) = a := by
  simp only [IntKind.wrap, IntKind.signed, IntKind.bits]; simp; omega
theorem u32_wrap' {a : Int} (h : 0 ≤ a) (h2 : a < 4294967296) : IntKind.u32.wrap a = a := by
  obtain ⟨n, rfl⟩ := Int.eq_ofNat_of_zero_le h; exact u32_wrap (by omega)
theorem ofInt_nat (w a : Nat) : BitVec.ofInt w (a : Int) = BitVec.ofNat w a := by
  apply BitVec.eq_of_toNat_eq; simp
theorem lt32 {a b : Nat} (h : a < 4294967296) : a &&& b < 4294967296 := Nat.lt_of_le_of_lt Nat.and_le_left h
theorem or32 {a b : Nat} (ha : a < 4294967296) (hb : b < 4294967296) : a ||| b < 4294967296 := Nat.or_lt_two_pow (n := 32) ha hb
theorem xor32 {a b : Nat} (ha : a < 4294967296) (hb : b < 4294967296) : a ^^^ b < 4294967296 := Nat.xor_lt_two_pow (n := 32) ha hb
theorem ndiff32 {a b : Nat} (ha : a < 4294967296) : ndiff a b < 4294967296 := ndiff_lt (n := 32) ha

section
variable {a b : Nat} (k : VP)
theorem wBin_and32 (ha : a < 4294967296) (hb : b < 4294967296) : wBin .and (.int .u32 (a : Int)) (.int .u32 (b : Int)) k = k (.int .u32 ((a &&& b : Nat) : Int)) := by
  rw [wBin_eq]
  show k (.int .u32 (IntKind.u32.wrap ((BitVec.ofInt 32 (a : Int) &&& BitVec.ofInt 32 (b : Int)).toNat : Int))) = _
  rw [ofInt_nat, ofInt_nat, BitVec.toNat_and, BitVec.toNat_ofNat, BitVec.toNat_ofNat, Nat.mod_eq_of_lt (by simpa using ha), Nat.mod_eq_of_lt (by simpa using hb), u32_wrap (lt32 ha)]
theorem wBin_or32 (ha : a < 4294967296) (hb : b < 4294967296) : wBin .or (.int .u32 (a : Int)) (.int .u32 (b : Int)) k = k (.int .u32 ((a ||| b : Nat) : Int)) := by
  rw [wBin_eq]
  show k (.int .u32 (IntKind.u32.wrap ((BitVec.ofInt 32 (a : Int) ||| BitVec.ofInt 32 (b : Int)).toNat : Int))) = _
  rw [ofInt_nat, ofInt_nat, BitVec.toNat_or, BitVec.toNat_ofNat, BitVec.toNat_ofNat, Nat.mod_eq_of_lt (by simpa using ha), Nat.mod_eq_of_lt (by simpa using hb), u32_wrap (or32 ha hb)]
theorem wBin_andNot32 (ha : a < 4294967296) (hb : b < 4294967296) : wBin .andNot (.int .u32 (a : Int)) (.int .u32 (b : Int)) k = k (.int .u32 ((ndiff a b : Nat) : Int)) := by
  rw [wBin_eq]
  show k (.int .u32 (IntKind.u32.wrap ((BitVec.ofInt 32 (a : Int) &&& ~~~(BitVec.ofInt 32 (b : Int))).toNat : Int))) = _
  rw [ofInt_nat, ofInt_nat]
  have e : (BitVec.ofNat 32 a &&& ~~~(BitVec.ofNat 32 b)).toNat = ndiff a b := by
    apply Nat.eq_of_testBit_eq
    intro i
    rw [ndiff_bit, BitVec.testBit_toNat, BitVec.getLsbD_and, BitVec.getLsbD_not, BitVec.getLsbD_ofNat, BitVec.getLsbD_ofNat]
    by_cases hi : i < 32
    · simp [hi]
    · have : a.testBit i = false := Nat.testBit_lt_two_pow (Nat.lt_of_lt_of_le ha (Nat.pow_le_pow_right (n := 2) (by omega) (show 32 ≤ i by omega)))
      simp [hi, this]
  rw [e, u32_wrap (ndiff32 ha)]
theorem wBin_shr32 {n : Nat} {K : IntKind} (ha : a < 4294967296) : wBin .shr (.int .u32 (a : Int)) (.int K (n : Int)) k = k (.int .u32 ((a >>> n : Nat) : Int)) := by
  rw [wBin_eq]
  have hn : ¬ (n : Int) < 0 := by omega
  simp only [binV, isShift, shiftV, cond_true, hn, if_false, Option.elim_some, IntKind.bits]
  congr 2
  have e : ((2 : Int) ^ min ((n : Int)).toNat 32) = ((2 ^ min n 32 : Nat) : Int) := by simp
  rw [e, Int.fdiv_eq_ediv_of_nonneg _ (Int.natCast_nonneg _), ← Int.natCast_ediv, Nat.shiftRight_eq_div_pow]
  congr 1
  by_cases h : n ≤ 32
  · rw [Nat.min_eq_left h]
  · rw [Nat.min_eq_right (by omega), Nat.div_eq_of_lt (by simpa using ha), Nat.div_eq_of_lt (Nat.lt_of_lt_of_le ha (by
      have := Nat.pow_le_pow_right (n := 2) (by omega) (show 32 ≤ n by omega)
      simpa using this))]
theorem wBin_shl32 {n : Nat} {K : IntKind} (hn : n < 32) : wBin .shl (.int .u32 1) (.int K (n : Int)) k = k (.int .u32 ((2 ^ n : Nat) : Int)) := by
  rw [wBin_eq]
  have h0 : ¬ (n : Int) < 0 := by omega
  simp only [binV, isShift, shiftV, cond_true, h0, if_false, Option.elim_some, IntKind.bits]
  congr 2
  have e : (1 * (2 : Int) ^ min ((n : Int)).toNat 32) = ((2 ^ n : Nat) : Int) := by
    have : min n 32 = n := by omega
    simp [this]
  rw [e, u32_wrap]
  exact Nat.lt_of_lt_of_le (Nat.pow_lt_pow_right (by omega) hn) (by decide)
theorem wBin_and1 (ha : a < 4294967296) : wBin .and (.int .u32 (a : Int)) (.int .u32 1) k = k (.int .u32 ((a % 2 : Nat) : Int)) := by
  have := wBin_and32 (b := 1) k ha (by omega)
  rw [Nat.and_one_is_mod] at this
  exact this
theorem wBin_rem2 (ha : a < 4294967296) : wBin .rem (.int .u32 (a : Int)) (.int .u32 2) k = k (.int .u32 ((a % 2 : Nat) : Int)) := by
  rw [wBin_rem _ _ _ _ (by omega)]
  congr 2
theorem shr_lt {n : Nat} (ha : a < 4294967296) : a >>> n < 4294967296 := Nat.lt_of_le_of_lt (Nat.shiftRight_le a n) ha
theorem bit_one (a n : Nat) : decide ((((a >>> n) % 2 : Nat) : Int) = 1) = a.testBit n := by
  rw [Nat.testBit_eq_decide_div_mod_eq, Nat.shiftRight_eq_div_pow]
  congr 1; apply propext; omega
theorem bit_zero (a n : Nat) : decide ((((a >>> n) % 2 : Nat) : Int) = 0) = !a.testBit n := by
  rw [Nat.testBit_eq_decide_div_mod_eq, Nat.shiftRight_eq_div_pow]
  generalize a / 2 ^ n = m
  rw [Bool.eq_iff_iff]
  simp only [decide_eq_true_eq, Bool.not_eq_true', decide_eq_false_iff_not]; omega
theorem bit_zero' (a n : Nat) : decide ((a >>> n) % 2 = 0) = !a.testBit n := by rw [← bit_zero]; congr 1; apply propext; omega
theorem bit_one' (a n : Nat) : decide ((a >>> n) % 2 = 1) = a.testBit n := by rw [← bit_one]; congr 1; apply propext; omega
theorem u32_eq_zero (a : Nat) : decide ((a : Int) = 0) = decide (a = 0) := by congr 1; apply propext; omega
theorem u32_ne_zero (a : Nat) : decide ((a : Int) ≠ 0) = decide (a ≠ 0) := by congr 1; apply propext; omega
theorem u32_eq (a b : Nat) : decide ((a : Int) = (b : Int)) = decide (a = b) := by congr 1; apply propext; omega
theorem u32_ne (a b : Nat) : decide ((a : Int) ≠ (b : Int)) = decide (a ≠ b) := by congr 1; apply propext; omega
end
end Go.Clo
