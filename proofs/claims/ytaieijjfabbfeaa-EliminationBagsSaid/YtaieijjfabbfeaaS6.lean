/-
  Contract: elimination.Check.
-/
import Derived.Test.YtaieijjfabbfeaaS5
set_option linter.unusedSimpArgs false
set_option linter.unusedVariables false
set_option linter.unusedSectionVars false
namespace Go.Proofs.Ytaieijjfabbfeaa
open Go.Clo

/-- All vertices of s are of t. -/
def inside (s t : Nat) : Prop := ∀ i, s.testBit i = true → t.testBit i = true
/-- The key of a bag lies in its parent's bag. -/
def fits1 (bs : List Bag) (b : Bag) : Prop := 0 ≤ b.par → ∀ q, bs[b.par.toNat]? = some q → inside b.key (q.key ||| 2 ^ b.par.toNat)
def covers (bs : List Bag) (e : Nat) : Prop := e = 0 ∨ ∃ b ∈ bs, inside e (setOf b)
open Classical in
noncomputable def ccode (n free : Nat) (es : List Nat) (bs : List Bag) : Int :=
  if bs.length ≠ n then 6 else if badAt n free bs 0 ≠ 0 then badAt n free bs 0
  else if ∃ v : Nat, v < n ∧ 0 ≤ up bs n v then 16
  else if ∃ b ∈ bs, ¬ fits1 bs b then 28
  else if ∃ e ∈ es, ¬ covers bs e then 9 else 0
theorem ndiff_zero {a b : Nat} : ndiff a b = 0 ↔ inside a b := by
  constructor
  · intro h i hi
    have := ndiff_bit a b i
    rw [h, hi] at this
    simpa using this
  · intro h
    apply Nat.eq_of_testBit_eq
    intro i
    rw [ndiff_bit]
    cases ha : a.testBit i with
    | false => simp
    | true => simp [h i ha]
theorem ndiff2 {k p q : Nat} : ndiff (ndiff k (2 ^ p)) q = 0 ↔ inside k (q ||| 2 ^ p) := by
  rw [ndiff_zero]
  constructor
  · intro h i hi
    rw [Nat.testBit_or]
    by_cases hp : i = p
    · subst hp; rw [Nat.testBit_two_pow_self]; simp
    · have := h i (by rw [ndiff_bit, hi, Nat.testBit_two_pow_of_ne (fun e => hp e.symm)]; rfl)
      rw [this]; rfl
  · intro h i hi
    rw [ndiff_bit, Bool.and_eq_true] at hi
    have := h i hi.1
    rw [Nat.testBit_or] at this
    simp at hi
    rw [hi.2] at this
    simpa using this
/-- Bags that are right each for itself. -/
def Right (n : Nat) (bs : List Bag) : Prop := ∀ (v : Nat) (b : Bag), bs[v]? = some b → b.var = v ∧ b.key < 2 ^ n ∧ ((b.key = 0 ∧ b.par = -1) ∨ (b.key ≠ 0 ∧ 0 ≤ b.par ∧ b.par < n ∧ b.key.testBit b.par.toNat = true))
theorem bcode_zero {n free v : Nat} {b : Bag} (h : bcode n free v b = 0) : b.var = v ∧ b.key.testBit v = false ∧ b.key < 2 ^ n ∧ ¬ (v < free ∧ 2 ^ v ≤ b.key) ∧ ((b.key = 0 ∧ b.par = -1) ∨ (b.key ≠ 0 ∧ 0 ≤ b.par ∧ b.par < n ∧ b.key.testBit b.par.toNat = true)) := by
  unfold bcode at h
  split at h
  · cases h
  · rename_i h1
    split at h
    · cases h
    · rename_i h2
      split at h
      · cases h
      · rename_i h3
        rw [not_or, not_or] at h1
        refine ⟨Decidable.of_not_not h1.1, by simpa using h1.2.1, by omega, h2, ?_⟩
        rw [not_or] at h3
        by_cases hk : b.key = 0
        · refine .inl ⟨hk, Decidable.of_not_not fun hp => h3.1 ⟨hk, hp⟩⟩
        · refine .inr ⟨hk, ?_, ?_, ?_⟩
          · apply Decidable.of_not_not; intro hp; exact h3.2 ⟨hk, .inl (by omega)⟩
          · apply Decidable.of_not_not; intro hp; exact h3.2 ⟨hk, .inr (.inl (by omega))⟩
          · cases hb : b.key.testBit b.par.toNat with
            | true => rfl
            | false => exact absurd ⟨hk, .inr (.inr hb)⟩ h3.2
theorem right_of {n free : Nat} {bs : List Bag} (h : badAt n free bs 0 = 0) : Right n bs := fun v b hb => by
  obtain ⟨h1, _, h3, _, h5⟩ := bcode_zero (badAt_zero h v b hb)
  exact ⟨h1, h3, h5⟩
theorem fcode_inv {N free : Int} {es : List Nat} (h : fcode N free es = 0) : ∃ n f : Nat, N = n ∧ free = f ∧ n ≤ 32 ∧ f ≤ n ∧ es.length ≤ 64 ∧ ∀ e ∈ es, e < 2 ^ n := by
  unfold fcode at h
  split at h
  · rename_i hg; exact absurd h hg
  · rename_i hg
    split at h
    · cases h
    · rename_i hf
      have hg : gcode N es = 0 := Decidable.of_not_not hg
      unfold gcode at hg
      split at hg
      · cases hg
      · rename_i h1
        split at hg
        · cases hg
        · rename_i h2
          split at hg
          · cases hg
          · rename_i h3
            obtain ⟨n, rfl⟩ := Int.eq_ofNat_of_zero_le (show 0 ≤ N by omega)
            obtain ⟨f, rfl⟩ := Int.eq_ofNat_of_zero_le (show 0 ≤ free by omega)
            refine ⟨n, f, rfl, rfl, by omega, by omega, by omega, fun e he => ?_⟩
            rcases Nat.lt_or_ge e (2 ^ n) with g | g
            · exact g
            · exact absurd ⟨e, he, by simpa using g⟩ h3

noncomputable def chk (N free : Int) (es : List Nat) (bs : List Bag) : Int := if fcode N free es ≠ 0 then fcode N free es else ccode N.toNat free.toNat es bs

theorem check8 (N free : Int) (A : Option Addr) (es : List Nat) (cap : Nat) (B : Option Addr) (bs : List Bag) (capB : Nat) (H : Heap) (nx : Nat) (hS : Sl H nx A (u32s es)) (hsm : Small es) (hB : Sl H nx B (bagsC bs)) (hkey : KeyOK bs) :
    Ans Try.prog 8 [gv N A es.length cap, .int .i64 free, .slice B bs.length capB] H nx fun r H' nx' => r = .int .i64 (chk N free es bs) ∧ Ext H nx H' nx' := by
  refine spec8 ?_
  unfold F8
  have hE1 : Ext H nx (hs H nx (some (.cells [.int .i64 N, .slice A es.length cap] 0))) (nx + 1) := (Ext.refl H nx).new _ (Nat.le_refl _) (by omega)
  simp (disch := first | omega | assumption | exact shr_lt (by assumption) | exact ndiff32 (by assumption) | exact below_lt (by omega) | fail) only [List.getD_cons_zero, List.getD_cons_succ, wBin_lss, wBin_leq, wBin_gtr, wBin_geq, wBin_eql, wBin_neq, wIf_bool, wGuard_true, wGuard_false, wPick_true, wPick_false, wUn_not, wFld_eq, wExt_eq, wPart_one, wPart_agg, wLen_slice, wLen_string, wNew_eq, wNm_eq, dBox_agg, dBox_int, dBox_slice, dBox_string, dBox_bool, dBox_map, dBox_ptr, oneCells, wLd_none, wLd_2, wLd_3, wLd_32, ldP_cells, ldP_rom, cellP_one, getH_same, getH_ne, forceV_eq, forceN_eq, hsK_eq, Option.elim_some, List.getElem?_cons_zero, List.getElem?_cons_succ, Yld.val, decide_true, decide_false, if_true, if_false, Bool.false_eq_true, Nat.zero_add, Nat.add_zero, and_true, true_and, or_false, Bool.not_true, Bool.not_false, and_self, wBin_add64, wBin_sub64, wIdx_slice, wIdx_array, wNilc_eq, Int.toNat_natCast, Nat.mul_one, Nat.zero_mul, wSt_agg, wSt_int, wSt_bool, wSt_string, wSt_slice, wSt_ptr, wSt_map, wSt_func, stP_cells, bit_one, bit_zero, bit_one', bit_zero', wBin_shr32, wBin_and1, wBin_rem2, wBin_andNot32, wBin_or32, wBin_and32, wBin_shl32, u32_eq_zero, u32_ne_zero, List.length_cons, List.length_nil, Nat.le_refl, Nat.reduceAdd, Nat.reduceMul, Nat.reduceLeDiff, Int.toNat_zero, Int.toNat_one, cellP_lit2]
  refine wCall_rule (checkFree27 N free A es cap _ _ (hS.ext hE1) hsm) ?_
  rintro _ H2 nx2 ⟨rfl, hE2⟩
  have hg := hE2.get nx (by omega)
  rw [getH_same] at hg
  have hE := hE1.trans hE2
  by_cases h0 : fcode N free es = 0
  case neg =>
    have d0 : decide (fcode N free es ≠ 0) = true := by simp [h0]
    simp (disch := first | omega | assumption | exact shr_lt (by assumption) | exact ndiff32 (by assumption) | exact below_lt (by omega) | fail) only [List.getD_cons_zero, List.getD_cons_succ, wBin_lss, wBin_leq, wBin_gtr, wBin_geq, wBin_eql, wBin_neq, wIf_bool, wGuard_true, wGuard_false, wPick_true, wPick_false, wUn_not, wFld_eq, wExt_eq, wPart_one, wPart_agg, wLen_slice, wLen_string, wNew_eq, wNm_eq, dBox_agg, dBox_int, dBox_slice, dBox_string, dBox_bool, dBox_map, dBox_ptr, oneCells, wLd_none, wLd_2, wLd_3, wLd_32, ldP_cells, ldP_rom, cellP_one, getH_same, getH_ne, forceV_eq, forceN_eq, hsK_eq, Option.elim_some, List.getElem?_cons_zero, List.getElem?_cons_succ, Yld.val, decide_true, decide_false, if_true, if_false, Bool.false_eq_true, Nat.zero_add, Nat.add_zero, and_true, true_and, or_false, Bool.not_true, Bool.not_false, and_self, wBin_add64, wBin_sub64, wIdx_slice, wIdx_array, wNilc_eq, Int.toNat_natCast, Nat.mul_one, Nat.zero_mul, wSt_agg, wSt_int, wSt_bool, wSt_string, wSt_slice, wSt_ptr, wSt_map, wSt_func, stP_cells, bit_one, bit_zero, bit_one', bit_zero', wBin_shr32, wBin_and1, wBin_rem2, wBin_andNot32, wBin_or32, wBin_and32, wBin_shl32, u32_eq_zero, u32_ne_zero, List.length_cons, List.length_nil, Nat.le_refl, Nat.reduceAdd, Nat.reduceMul, Nat.reduceLeDiff, Int.toNat_zero, Int.toNat_one, d0]
    exact ⟨by rw [chk, if_pos h0], hE⟩
  have d0 : decide (fcode N free es ≠ 0) = false := by simp [h0]
  obtain ⟨n, f, rfl, rfl, hn, hf, hle, hes⟩ := fcode_inv h0
  have hchk : chk n f es bs = ccode n f es bs := by rw [chk, if_neg (by simpa using h0)]; rfl
  rw [hchk]
  simp (disch := first | omega | assumption | exact shr_lt (by assumption) | exact ndiff32 (by assumption) | exact below_lt (by omega) | fail) only [List.getD_cons_zero, List.getD_cons_succ, wBin_lss, wBin_leq, wBin_gtr, wBin_geq, wBin_eql, wBin_neq, wIf_bool, wGuard_true, wGuard_false, wPick_true, wPick_false, wUn_not, wFld_eq, wExt_eq, wPart_one, wPart_agg, wLen_slice, wLen_string, wNew_eq, wNm_eq, dBox_agg, dBox_int, dBox_slice, dBox_string, dBox_bool, dBox_map, dBox_ptr, oneCells, wLd_none, wLd_2, wLd_3, wLd_32, ldP_cells, ldP_rom, cellP_one, getH_same, getH_ne, forceV_eq, forceN_eq, hsK_eq, Option.elim_some, List.getElem?_cons_zero, List.getElem?_cons_succ, Yld.val, decide_true, decide_false, if_true, if_false, Bool.false_eq_true, Nat.zero_add, Nat.add_zero, and_true, true_and, or_false, Bool.not_true, Bool.not_false, and_self, wBin_add64, wBin_sub64, wIdx_slice, wIdx_array, wNilc_eq, Int.toNat_natCast, Nat.mul_one, Nat.zero_mul, wSt_agg, wSt_int, wSt_bool, wSt_string, wSt_slice, wSt_ptr, wSt_map, wSt_func, stP_cells, bit_one, bit_zero, bit_one', bit_zero', wBin_shr32, wBin_and1, wBin_rem2, wBin_andNot32, wBin_or32, wBin_and32, wBin_shl32, u32_eq_zero, u32_ne_zero, List.length_cons, List.length_nil, Nat.le_refl, Nat.reduceAdd, Nat.reduceMul, Nat.reduceLeDiff, Int.toNat_zero, Int.toNat_one, d0, hg]
  by_cases hlen : bs.length = n
  case neg =>
    have d1 : decide ((bs.length : Int) ≠ n) = true := by simp; omega
    simp (disch := first | omega | assumption | exact shr_lt (by assumption) | exact ndiff32 (by assumption) | exact below_lt (by omega) | fail) only [List.getD_cons_zero, List.getD_cons_succ, wBin_lss, wBin_leq, wBin_gtr, wBin_geq, wBin_eql, wBin_neq, wIf_bool, wGuard_true, wGuard_false, wPick_true, wPick_false, wUn_not, wFld_eq, wExt_eq, wPart_one, wPart_agg, wLen_slice, wLen_string, wNew_eq, wNm_eq, dBox_agg, dBox_int, dBox_slice, dBox_string, dBox_bool, dBox_map, dBox_ptr, oneCells, wLd_none, wLd_2, wLd_3, wLd_32, ldP_cells, ldP_rom, cellP_one, getH_same, getH_ne, forceV_eq, forceN_eq, hsK_eq, Option.elim_some, List.getElem?_cons_zero, List.getElem?_cons_succ, Yld.val, decide_true, decide_false, if_true, if_false, Bool.false_eq_true, Nat.zero_add, Nat.add_zero, and_true, true_and, or_false, Bool.not_true, Bool.not_false, and_self, wBin_add64, wBin_sub64, wIdx_slice, wIdx_array, wNilc_eq, Int.toNat_natCast, Nat.mul_one, Nat.zero_mul, wSt_agg, wSt_int, wSt_bool, wSt_string, wSt_slice, wSt_ptr, wSt_map, wSt_func, stP_cells, bit_one, bit_zero, bit_one', bit_zero', wBin_shr32, wBin_and1, wBin_rem2, wBin_andNot32, wBin_or32, wBin_and32, wBin_shl32, u32_eq_zero, u32_ne_zero, List.length_cons, List.length_nil, Nat.le_refl, Nat.reduceAdd, Nat.reduceMul, Nat.reduceLeDiff, Int.toNat_zero, Int.toNat_one, d1]
    exact ⟨by rw [ccode, if_pos hlen], hE⟩
  have d1 : decide ((bs.length : Int) ≠ n) = false := by simp; omega
  simp (disch := first | omega | assumption | exact shr_lt (by assumption) | exact ndiff32 (by assumption) | exact below_lt (by omega) | fail) only [List.getD_cons_zero, List.getD_cons_succ, wBin_lss, wBin_leq, wBin_gtr, wBin_geq, wBin_eql, wBin_neq, wIf_bool, wGuard_true, wGuard_false, wPick_true, wPick_false, wUn_not, wFld_eq, wExt_eq, wPart_one, wPart_agg, wLen_slice, wLen_string, wNew_eq, wNm_eq, dBox_agg, dBox_int, dBox_slice, dBox_string, dBox_bool, dBox_map, dBox_ptr, oneCells, wLd_none, wLd_2, wLd_3, wLd_32, ldP_cells, ldP_rom, cellP_one, getH_same, getH_ne, forceV_eq, forceN_eq, hsK_eq, Option.elim_some, List.getElem?_cons_zero, List.getElem?_cons_succ, Yld.val, decide_true, decide_false, if_true, if_false, Bool.false_eq_true, Nat.zero_add, Nat.add_zero, and_true, true_and, or_false, Bool.not_true, Bool.not_false, and_self, wBin_add64, wBin_sub64, wIdx_slice, wIdx_array, wNilc_eq, Int.toNat_natCast, Nat.mul_one, Nat.zero_mul, wSt_agg, wSt_int, wSt_bool, wSt_string, wSt_slice, wSt_ptr, wSt_map, wSt_func, stP_cells, bit_one, bit_zero, bit_one', bit_zero', wBin_shr32, wBin_and1, wBin_rem2, wBin_andNot32, wBin_or32, wBin_and32, wBin_shl32, u32_eq_zero, u32_ne_zero, List.length_cons, List.length_nil, Nat.le_refl, Nat.reduceAdd, Nat.reduceMul, Nat.reduceLeDiff, Int.toNat_zero, Int.toNat_one, d1]
  -- the bags, one by one
  refine wLoop_rule (m := bs.length) (fun m L H' nx' => ∃ i : Nat, m + i = bs.length ∧ L = [.int .i64 (i : Int)] ∧ (∀ (j : Nat) (b : Bag), j < i → bs[j]? = some b → bcode n f j b = 0) ∧ Ext H2 nx2 H' nx') ?_ ⟨0, rfl, rfl, fun j b h => by omega, Ext.refl _ _⟩
  rintro m ih L H3 nx3 ⟨i, hm, rfl, hst, hE3⟩ hih
  have hg3 := (hE3.get nx (by have := hE2.le; omega)).trans hg
  have hEE := hE.trans hE3
  by_cases hi : i < bs.length
  · have hi' : (i : Int) < (bs.length : Int) := by omega
    obtain ⟨b, hb⟩ : ∃ b, bs[i]? = some b := ⟨_, List.getElem?_eq_getElem hi⟩
    obtain ⟨B, o, row, rfl, hBn, hrow, hget⟩ := (hB.ext hEE).open (i := i * 3) (by rw [bagsC_length]; omega)
    have hgg := fun j v hv => hget _ v (bagsC_get hb j v hv)
    have g0 : row[o + i * 3]? = some (.int .i64 b.var) := hgg 0 _ rfl
    have g1 : row[o + i * 3 + 1]? = some (.int .u32 (b.key : Int)) := hgg 1 _ rfl
    have g2 : row[o + i * 3 + 2]? = some (.int .i64 b.par) := hgg 2 _ rfl
    have hnx3 : nx < nx3 := by have := hE2.le; have := hE3.le; omega
    simp (disch := first | omega | assumption | exact shr_lt (by assumption) | exact ndiff32 (by assumption) | exact below_lt (by omega) | fail) only [List.getD_cons_zero, List.getD_cons_succ, wBin_lss, wBin_leq, wBin_gtr, wBin_geq, wBin_eql, wBin_neq, wIf_bool, wGuard_true, wGuard_false, wPick_true, wPick_false, wUn_not, wFld_eq, wExt_eq, wPart_one, wPart_agg, wLen_slice, wLen_string, wNew_eq, wNm_eq, dBox_agg, dBox_int, dBox_slice, dBox_string, dBox_bool, dBox_map, dBox_ptr, oneCells, wLd_none, wLd_2, wLd_3, wLd_32, ldP_cells, ldP_rom, cellP_one, getH_same, getH_ne, forceV_eq, forceN_eq, hsK_eq, Option.elim_some, List.getElem?_cons_zero, List.getElem?_cons_succ, Yld.val, decide_true, decide_false, if_true, if_false, Bool.false_eq_true, Nat.zero_add, Nat.add_zero, and_true, true_and, or_false, Bool.not_true, Bool.not_false, and_self, wBin_add64, wBin_sub64, wIdx_slice, wIdx_array, wNilc_eq, Int.toNat_natCast, Nat.mul_one, Nat.zero_mul, wSt_agg, wSt_int, wSt_bool, wSt_string, wSt_slice, wSt_ptr, wSt_map, wSt_func, stP_cells, bit_one, bit_zero, bit_one', bit_zero', wBin_shr32, wBin_and1, wBin_rem2, wBin_andNot32, wBin_or32, wBin_and32, wBin_shl32, u32_eq_zero, u32_ne_zero, List.length_cons, List.length_nil, Nat.le_refl, Nat.reduceAdd, Nat.reduceMul, Nat.reduceLeDiff, Int.toNat_zero, Int.toNat_one, hi', ldP_row hrow, cellP_3 g0 g1 g2, putL_lit3, cellP_lit3, hg3]
    refine wCall_rule (checkBag28 (b := b) hn (by omega) (hkey.get hb) _ _) ?_
    rintro _ H6 nx6 ⟨rfl, hE6⟩
    have hE36 : Ext H3 nx3 H6 nx6 := ((((Ext.self (by omega)).hs (Nat.le_refl _)).hs (Nat.le_refl _)) : Ext H3 nx3 _ (nx3 + 1)).trans hE6
    by_cases hc : bcode n f i b = 0
    · have d2 : decide (bcode n f i b ≠ 0) = false := by simp [hc]
      simp (disch := first | omega | assumption | exact shr_lt (by assumption) | exact ndiff32 (by assumption) | exact below_lt (by omega) | fail) only [List.getD_cons_zero, List.getD_cons_succ, wBin_lss, wBin_leq, wBin_gtr, wBin_geq, wBin_eql, wBin_neq, wIf_bool, wGuard_true, wGuard_false, wPick_true, wPick_false, wUn_not, wFld_eq, wExt_eq, wPart_one, wPart_agg, wLen_slice, wLen_string, wNew_eq, wNm_eq, dBox_agg, dBox_int, dBox_slice, dBox_string, dBox_bool, dBox_map, dBox_ptr, oneCells, wLd_none, wLd_2, wLd_3, wLd_32, ldP_cells, ldP_rom, cellP_one, getH_same, getH_ne, forceV_eq, forceN_eq, hsK_eq, Option.elim_some, List.getElem?_cons_zero, List.getElem?_cons_succ, Yld.val, decide_true, decide_false, if_true, if_false, Bool.false_eq_true, Nat.zero_add, Nat.add_zero, and_true, true_and, or_false, Bool.not_true, Bool.not_false, and_self, wBin_add64, wBin_sub64, wIdx_slice, wIdx_array, wNilc_eq, Int.toNat_natCast, Nat.mul_one, Nat.zero_mul, wSt_agg, wSt_int, wSt_bool, wSt_string, wSt_slice, wSt_ptr, wSt_map, wSt_func, stP_cells, bit_one, bit_zero, bit_one', bit_zero', wBin_shr32, wBin_and1, wBin_rem2, wBin_andNot32, wBin_or32, wBin_and32, wBin_shl32, u32_eq_zero, u32_ne_zero, List.length_cons, List.length_nil, Nat.le_refl, Nat.reduceAdd, Nat.reduceMul, Nat.reduceLeDiff, Int.toNat_zero, Int.toNat_one, d2]
      refine hih (m - 1) _ _ _ (by omega) ⟨i + 1, by omega, by simp, fun j b' hj hb' => ?_, hE3.trans hE36⟩
      by_cases hji : j = i
      · subst hji; rw [hb] at hb'; cases hb'; exact hc
      · exact hst j b' (by omega) hb'
    · have d2 : decide (bcode n f i b ≠ 0) = true := by simp [hc]
      simp (disch := first | omega | assumption | exact shr_lt (by assumption) | exact ndiff32 (by assumption) | exact below_lt (by omega) | fail) only [List.getD_cons_zero, List.getD_cons_succ, wBin_lss, wBin_leq, wBin_gtr, wBin_geq, wBin_eql, wBin_neq, wIf_bool, wGuard_true, wGuard_false, wPick_true, wPick_false, wUn_not, wFld_eq, wExt_eq, wPart_one, wPart_agg, wLen_slice, wLen_string, wNew_eq, wNm_eq, dBox_agg, dBox_int, dBox_slice, dBox_string, dBox_bool, dBox_map, dBox_ptr, oneCells, wLd_none, wLd_2, wLd_3, wLd_32, ldP_cells, ldP_rom, cellP_one, getH_same, getH_ne, forceV_eq, forceN_eq, hsK_eq, Option.elim_some, List.getElem?_cons_zero, List.getElem?_cons_succ, Yld.val, decide_true, decide_false, if_true, if_false, Bool.false_eq_true, Nat.zero_add, Nat.add_zero, and_true, true_and, or_false, Bool.not_true, Bool.not_false, and_self, wBin_add64, wBin_sub64, wIdx_slice, wIdx_array, wNilc_eq, Int.toNat_natCast, Nat.mul_one, Nat.zero_mul, wSt_agg, wSt_int, wSt_bool, wSt_string, wSt_slice, wSt_ptr, wSt_map, wSt_func, stP_cells, bit_one, bit_zero, bit_one', bit_zero', wBin_shr32, wBin_and1, wBin_rem2, wBin_andNot32, wBin_or32, wBin_and32, wBin_shl32, u32_eq_zero, u32_ne_zero, List.length_cons, List.length_nil, Nat.le_refl, Nat.reduceAdd, Nat.reduceMul, Nat.reduceLeDiff, Int.toNat_zero, Int.toNat_one, d2]
      refine ⟨?_, hEE.trans hE36⟩
      have hbad := badAt_here hst hb hc
      rw [ccode, if_neg (by simpa using hlen), hbad, if_pos hc]
  have hi' : ¬ (i : Int) < (bs.length : Int) := by omega
  have hbad : badAt n f bs 0 = 0 := badAt_none fun j b hb => hst j b (by have := lt_len hb; omega) hb
  have hright := right_of hbad
  simp (disch := first | omega | assumption | exact shr_lt (by assumption) | exact ndiff32 (by assumption) | exact below_lt (by omega) | fail) only [List.getD_cons_zero, List.getD_cons_succ, wBin_lss, wBin_leq, wBin_gtr, wBin_geq, wBin_eql, wBin_neq, wIf_bool, wGuard_true, wGuard_false, wPick_true, wPick_false, wUn_not, wFld_eq, wExt_eq, wPart_one, wPart_agg, wLen_slice, wLen_string, wNew_eq, wNm_eq, dBox_agg, dBox_int, dBox_slice, dBox_string, dBox_bool, dBox_map, dBox_ptr, oneCells, wLd_none, wLd_2, wLd_3, wLd_32, ldP_cells, ldP_rom, cellP_one, getH_same, getH_ne, forceV_eq, forceN_eq, hsK_eq, Option.elim_some, List.getElem?_cons_zero, List.getElem?_cons_succ, Yld.val, decide_true, decide_false, if_true, if_false, Bool.false_eq_true, Nat.zero_add, Nat.add_zero, and_true, true_and, or_false, Bool.not_true, Bool.not_false, and_self, wBin_add64, wBin_sub64, wIdx_slice, wIdx_array, wNilc_eq, Int.toNat_natCast, Nat.mul_one, Nat.zero_mul, wSt_agg, wSt_int, wSt_bool, wSt_string, wSt_slice, wSt_ptr, wSt_map, wSt_func, stP_cells, bit_one, bit_zero, bit_one', bit_zero', wBin_shr32, wBin_and1, wBin_rem2, wBin_andNot32, wBin_or32, wBin_and32, wBin_shl32, u32_eq_zero, u32_ne_zero, List.length_cons, List.length_nil, Nat.le_refl, Nat.reduceAdd, Nat.reduceMul, Nat.reduceLeDiff, Int.toNat_zero, Int.toNat_one, hi']
  clear hih
  -- the ways up
  refine wLoop_rule (m := bs.length) (fun m L H' nx' => ∃ i : Nat, m + i = bs.length ∧ L = [.int .i64 (i : Int)] ∧ (∀ j : Nat, j < i → up bs n j < 0) ∧ H3 = H' ∧ nx3 = nx') ?_ ⟨0, rfl, rfl, fun j h => by omega, rfl, rfl⟩
  rintro m1 ih1 L1 _ _ ⟨v, hm1, rfl, hups, rfl, rfl⟩ hih1
  by_cases hv : v < bs.length
  · have hv' : (v : Int) < (bs.length : Int) := by omega
    simp (disch := first | omega | assumption | exact shr_lt (by assumption) | exact ndiff32 (by assumption) | exact below_lt (by omega) | fail) only [List.getD_cons_zero, List.getD_cons_succ, wBin_lss, wBin_leq, wBin_gtr, wBin_geq, wBin_eql, wBin_neq, wIf_bool, wGuard_true, wGuard_false, wPick_true, wPick_false, wUn_not, wFld_eq, wExt_eq, wPart_one, wPart_agg, wLen_slice, wLen_string, wNew_eq, wNm_eq, dBox_agg, dBox_int, dBox_slice, dBox_string, dBox_bool, dBox_map, dBox_ptr, oneCells, wLd_none, wLd_2, wLd_3, wLd_32, ldP_cells, ldP_rom, cellP_one, getH_same, getH_ne, forceV_eq, forceN_eq, hsK_eq, Option.elim_some, List.getElem?_cons_zero, List.getElem?_cons_succ, Yld.val, decide_true, decide_false, if_true, if_false, Bool.false_eq_true, Nat.zero_add, Nat.add_zero, and_true, true_and, or_false, Bool.not_true, Bool.not_false, and_self, wBin_add64, wBin_sub64, wIdx_slice, wIdx_array, wNilc_eq, Int.toNat_natCast, Nat.mul_one, Nat.zero_mul, wSt_agg, wSt_int, wSt_bool, wSt_string, wSt_slice, wSt_ptr, wSt_map, wSt_func, stP_cells, bit_one, bit_zero, bit_one', bit_zero', wBin_shr32, wBin_and1, wBin_rem2, wBin_andNot32, wBin_or32, wBin_and32, wBin_shl32, u32_eq_zero, u32_ne_zero, List.length_cons, List.length_nil, Nat.le_refl, Nat.reduceAdd, Nat.reduceMul, Nat.reduceLeDiff, Int.toNat_zero, Int.toNat_one, hv']
    refine wLoop_rule (m := bs.length) (fun m L H' nx' => ∃ (s : Nat), m + s = bs.length ∧ L = [.int .i64 (s : Int), .int .i64 (up bs s v)] ∧ H3 = H' ∧ nx3 = nx') ?_ ⟨0, rfl, rfl, rfl, rfl⟩
    rintro m2 ih2 L2 _ _ ⟨s, hm2, rfl, rfl, rfl⟩ hih2
    simp (disch := first | omega | assumption | exact shr_lt (by assumption) | exact ndiff32 (by assumption) | exact below_lt (by omega) | fail) only [List.getD_cons_zero, List.getD_cons_succ, wBin_lss, wBin_leq, wBin_gtr, wBin_geq, wBin_eql, wBin_neq, wIf_bool, wGuard_true, wGuard_false, wPick_true, wPick_false, wUn_not, wFld_eq, wExt_eq, wPart_one, wPart_agg, wLen_slice, wLen_string, wNew_eq, wNm_eq, dBox_agg, dBox_int, dBox_slice, dBox_string, dBox_bool, dBox_map, dBox_ptr, oneCells, wLd_none, wLd_2, wLd_3, wLd_32, ldP_cells, ldP_rom, cellP_one, getH_same, getH_ne, forceV_eq, forceN_eq, hsK_eq, Option.elim_some, List.getElem?_cons_zero, List.getElem?_cons_succ, Yld.val, decide_true, decide_false, if_true, if_false, Bool.false_eq_true, Nat.zero_add, Nat.add_zero, and_true, true_and, or_false, Bool.not_true, Bool.not_false, and_self, wBin_add64, wBin_sub64, wIdx_slice, wIdx_array, wNilc_eq, Int.toNat_natCast, Nat.mul_one, Nat.zero_mul, wSt_agg, wSt_int, wSt_bool, wSt_string, wSt_slice, wSt_ptr, wSt_map, wSt_func, stP_cells, bit_one, bit_zero, bit_one', bit_zero', wBin_shr32, wBin_and1, wBin_rem2, wBin_andNot32, wBin_or32, wBin_and32, wBin_shl32, u32_eq_zero, u32_ne_zero, List.length_cons, List.length_nil, Nat.le_refl, Nat.reduceAdd, Nat.reduceMul, Nat.reduceLeDiff, Int.toNat_zero, Int.toNat_one]
    by_cases hup : 0 ≤ up bs s v
    · by_cases hs : s + 1 > bs.length
      · have hs' : (bs.length : Int) < (s : Int) + 1 := by omega
        simp (disch := first | omega | assumption | exact shr_lt (by assumption) | exact ndiff32 (by assumption) | exact below_lt (by omega) | fail) only [List.getD_cons_zero, List.getD_cons_succ, wBin_lss, wBin_leq, wBin_gtr, wBin_geq, wBin_eql, wBin_neq, wIf_bool, wGuard_true, wGuard_false, wPick_true, wPick_false, wUn_not, wFld_eq, wExt_eq, wPart_one, wPart_agg, wLen_slice, wLen_string, wNew_eq, wNm_eq, dBox_agg, dBox_int, dBox_slice, dBox_string, dBox_bool, dBox_map, dBox_ptr, oneCells, wLd_none, wLd_2, wLd_3, wLd_32, ldP_cells, ldP_rom, cellP_one, getH_same, getH_ne, forceV_eq, forceN_eq, hsK_eq, Option.elim_some, List.getElem?_cons_zero, List.getElem?_cons_succ, Yld.val, decide_true, decide_false, if_true, if_false, Bool.false_eq_true, Nat.zero_add, Nat.add_zero, and_true, true_and, or_false, Bool.not_true, Bool.not_false, and_self, wBin_add64, wBin_sub64, wIdx_slice, wIdx_array, wNilc_eq, Int.toNat_natCast, Nat.mul_one, Nat.zero_mul, wSt_agg, wSt_int, wSt_bool, wSt_string, wSt_slice, wSt_ptr, wSt_map, wSt_func, stP_cells, bit_one, bit_zero, bit_one', bit_zero', wBin_shr32, wBin_and1, wBin_rem2, wBin_andNot32, wBin_or32, wBin_and32, wBin_shl32, u32_eq_zero, u32_ne_zero, List.length_cons, List.length_nil, Nat.le_refl, Nat.reduceAdd, Nat.reduceMul, Nat.reduceLeDiff, Int.toNat_zero, Int.toNat_one, hup, hs']
        refine ⟨?_, hEE⟩
        have : s = n := by omega
        subst this
        rw [ccode, if_neg (by simpa using hlen), if_neg (by simpa using hbad), if_pos ⟨v, by omega, hup⟩]
      · have hs' : ¬ (bs.length : Int) < (s : Int) + 1 := by omega
        obtain ⟨p, hp⟩ := Int.eq_ofNat_of_zero_le hup
        have hpn : p < bs.length := by
          cases s with
          | zero => simp only [up] at hp; omega
          | succ s =>
            have h1 : 0 ≤ up bs s v := by
              rcases int_lt_or_ge (up bs s v) 0 with g | g
              · have := up_neg g (s + 1) (by omega); omega
              · exact g
            simp only [up, stepUp] at hp
            rw [if_neg (by omega)] at hp
            cases hq : bs[(up bs s v).toNat]? with
            | none => rw [hq] at hp; simp at hp
            | some q =>
              rw [hq] at hp
              simp at hp
              rcases (hright _ q hq).2.2 with ⟨_, h⟩ | ⟨_, _, h, _⟩ <;> omega
        obtain ⟨b, hb⟩ : ∃ b, bs[p]? = some b := ⟨_, List.getElem?_eq_getElem hpn⟩
        obtain ⟨B, o, row, rfl, hBn, hrow, hget⟩ := (hB.ext hEE).open (i := p * 3) (by rw [bagsC_length]; omega)
        have hgg := fun j v hv => hget _ v (bagsC_get hb j v hv)
        have g2 : row[o + p * 3 + 2]? = some (.int .i64 b.par) := hgg 2 _ rfl
        rw [hp] at hup ⊢
        simp (disch := first | omega | assumption | exact shr_lt (by assumption) | exact ndiff32 (by assumption) | exact below_lt (by omega) | fail) only [List.getD_cons_zero, List.getD_cons_succ, wBin_lss, wBin_leq, wBin_gtr, wBin_geq, wBin_eql, wBin_neq, wIf_bool, wGuard_true, wGuard_false, wPick_true, wPick_false, wUn_not, wFld_eq, wExt_eq, wPart_one, wPart_agg, wLen_slice, wLen_string, wNew_eq, wNm_eq, dBox_agg, dBox_int, dBox_slice, dBox_string, dBox_bool, dBox_map, dBox_ptr, oneCells, wLd_none, wLd_2, wLd_3, wLd_32, ldP_cells, ldP_rom, cellP_one, getH_same, getH_ne, forceV_eq, forceN_eq, hsK_eq, Option.elim_some, List.getElem?_cons_zero, List.getElem?_cons_succ, Yld.val, decide_true, decide_false, if_true, if_false, Bool.false_eq_true, Nat.zero_add, Nat.add_zero, and_true, true_and, or_false, Bool.not_true, Bool.not_false, and_self, wBin_add64, wBin_sub64, wIdx_slice, wIdx_array, wNilc_eq, Int.toNat_natCast, Nat.mul_one, Nat.zero_mul, wSt_agg, wSt_int, wSt_bool, wSt_string, wSt_slice, wSt_ptr, wSt_map, wSt_func, stP_cells, bit_one, bit_zero, bit_one', bit_zero', wBin_shr32, wBin_and1, wBin_rem2, wBin_andNot32, wBin_or32, wBin_and32, wBin_shl32, u32_eq_zero, u32_ne_zero, List.length_cons, List.length_nil, Nat.le_refl, Nat.reduceAdd, Nat.reduceMul, Nat.reduceLeDiff, Int.toNat_zero, Int.toNat_one, hup, hs', ldP_row hrow, g2]
        refine hih2 (m2 - 1) _ _ _ (by omega) ⟨s + 1, by omega, ?_, rfl, rfl⟩
        rw [up_step hp hb]; simp
    · simp (disch := first | omega | assumption | exact shr_lt (by assumption) | exact ndiff32 (by assumption) | exact below_lt (by omega) | fail) only [List.getD_cons_zero, List.getD_cons_succ, wBin_lss, wBin_leq, wBin_gtr, wBin_geq, wBin_eql, wBin_neq, wIf_bool, wGuard_true, wGuard_false, wPick_true, wPick_false, wUn_not, wFld_eq, wExt_eq, wPart_one, wPart_agg, wLen_slice, wLen_string, wNew_eq, wNm_eq, dBox_agg, dBox_int, dBox_slice, dBox_string, dBox_bool, dBox_map, dBox_ptr, oneCells, wLd_none, wLd_2, wLd_3, wLd_32, ldP_cells, ldP_rom, cellP_one, getH_same, getH_ne, forceV_eq, forceN_eq, hsK_eq, Option.elim_some, List.getElem?_cons_zero, List.getElem?_cons_succ, Yld.val, decide_true, decide_false, if_true, if_false, Bool.false_eq_true, Nat.zero_add, Nat.add_zero, and_true, true_and, or_false, Bool.not_true, Bool.not_false, and_self, wBin_add64, wBin_sub64, wIdx_slice, wIdx_array, wNilc_eq, Int.toNat_natCast, Nat.mul_one, Nat.zero_mul, wSt_agg, wSt_int, wSt_bool, wSt_string, wSt_slice, wSt_ptr, wSt_map, wSt_func, stP_cells, bit_one, bit_zero, bit_one', bit_zero', wBin_shr32, wBin_and1, wBin_rem2, wBin_andNot32, wBin_or32, wBin_and32, wBin_shl32, u32_eq_zero, u32_ne_zero, List.length_cons, List.length_nil, Nat.le_refl, Nat.reduceAdd, Nat.reduceMul, Nat.reduceLeDiff, Int.toNat_zero, Int.toNat_one, hup]
      refine hih1 (m1 - 1) _ _ _ (by omega) ⟨v + 1, by omega, by simp, fun j hj => ?_, rfl, rfl⟩
      by_cases hjv : j = v
      · subst hjv; exact up_neg (k := s) (by omega) n (by omega)
      · exact hups j (by omega)
  have hv' : ¬ (v : Int) < (bs.length : Int) := by omega
  have hno : ¬ ∃ v : Nat, v < n ∧ 0 ≤ up bs n v := by
    rintro ⟨u, hu, h⟩; have := hups u (by omega); omega
  simp (disch := first | omega | assumption | exact shr_lt (by assumption) | exact ndiff32 (by assumption) | exact below_lt (by omega) | fail) only [List.getD_cons_zero, List.getD_cons_succ, wBin_lss, wBin_leq, wBin_gtr, wBin_geq, wBin_eql, wBin_neq, wIf_bool, wGuard_true, wGuard_false, wPick_true, wPick_false, wUn_not, wFld_eq, wExt_eq, wPart_one, wPart_agg, wLen_slice, wLen_string, wNew_eq, wNm_eq, dBox_agg, dBox_int, dBox_slice, dBox_string, dBox_bool, dBox_map, dBox_ptr, oneCells, wLd_none, wLd_2, wLd_3, wLd_32, ldP_cells, ldP_rom, cellP_one, getH_same, getH_ne, forceV_eq, forceN_eq, hsK_eq, Option.elim_some, List.getElem?_cons_zero, List.getElem?_cons_succ, Yld.val, decide_true, decide_false, if_true, if_false, Bool.false_eq_true, Nat.zero_add, Nat.add_zero, and_true, true_and, or_false, Bool.not_true, Bool.not_false, and_self, wBin_add64, wBin_sub64, wIdx_slice, wIdx_array, wNilc_eq, Int.toNat_natCast, Nat.mul_one, Nat.zero_mul, wSt_agg, wSt_int, wSt_bool, wSt_string, wSt_slice, wSt_ptr, wSt_map, wSt_func, stP_cells, bit_one, bit_zero, bit_one', bit_zero', wBin_shr32, wBin_and1, wBin_rem2, wBin_andNot32, wBin_or32, wBin_and32, wBin_shl32, u32_eq_zero, u32_ne_zero, List.length_cons, List.length_nil, Nat.le_refl, Nat.reduceAdd, Nat.reduceMul, Nat.reduceLeDiff, Int.toNat_zero, Int.toNat_one, hv']
  clear hih1
  -- the keys in the parents' bags
  refine wLoop_rule (m := bs.length) (fun m L H' nx' => ∃ i : Nat, m + i = bs.length ∧ L = [.int .i64 (i : Int)] ∧ (∀ (j : Nat) (b : Bag), j < i → bs[j]? = some b → fits1 bs b) ∧ Ext H3 nx3 H' nx') ?_ ⟨0, rfl, rfl, fun j b h => by omega, Ext.refl _ _⟩
  rintro m4 ih4 L4 H4 nx4 ⟨i4, hm4, rfl, hst4, hE4⟩ hih4
  have hEE4 := hEE.trans hE4
  have hg4 := (hE4.get nx (by have := hE2.le; have := hE3.le; omega)).trans hg3
  by_cases hi4 : i4 < bs.length
  · have hi4' : (i4 : Int) < (bs.length : Int) := by omega
    obtain ⟨b, hb⟩ : ∃ b, bs[i4]? = some b := ⟨_, List.getElem?_eq_getElem hi4⟩
    obtain ⟨B, o, row, rfl, hBn, hrow, hget⟩ := (hB.ext hEE4).open (i := i4 * 3) (by rw [bagsC_length]; omega)
    have hgg := fun j v hv => hget _ v (bagsC_get hb j v hv)
    have g0 : row[o + i4 * 3]? = some (.int .i64 b.var) := hgg 0 _ rfl
    have g1 : row[o + i4 * 3 + 1]? = some (.int .u32 (b.key : Int)) := hgg 1 _ rfl
    have g2 : row[o + i4 * 3 + 2]? = some (.int .i64 b.par) := hgg 2 _ rfl
    have hk := hkey.get hb
    simp (disch := first | omega | assumption | exact shr_lt (by assumption) | exact ndiff32 (by assumption) | exact below_lt (by omega) | fail) only [List.getD_cons_zero, List.getD_cons_succ, wBin_lss, wBin_leq, wBin_gtr, wBin_geq, wBin_eql, wBin_neq, wIf_bool, wGuard_true, wGuard_false, wPick_true, wPick_false, wUn_not, wFld_eq, wExt_eq, wPart_one, wPart_agg, wLen_slice, wLen_string, wNew_eq, wNm_eq, dBox_agg, dBox_int, dBox_slice, dBox_string, dBox_bool, dBox_map, dBox_ptr, oneCells, wLd_none, wLd_2, wLd_3, wLd_32, ldP_cells, ldP_rom, cellP_one, getH_same, getH_ne, forceV_eq, forceN_eq, hsK_eq, Option.elim_some, List.getElem?_cons_zero, List.getElem?_cons_succ, Yld.val, decide_true, decide_false, if_true, if_false, Bool.false_eq_true, Nat.zero_add, Nat.add_zero, and_true, true_and, or_false, Bool.not_true, Bool.not_false, and_self, wBin_add64, wBin_sub64, wIdx_slice, wIdx_array, wNilc_eq, Int.toNat_natCast, Nat.mul_one, Nat.zero_mul, wSt_agg, wSt_int, wSt_bool, wSt_string, wSt_slice, wSt_ptr, wSt_map, wSt_func, stP_cells, bit_one, bit_zero, bit_one', bit_zero', wBin_shr32, wBin_and1, wBin_rem2, wBin_andNot32, wBin_or32, wBin_and32, wBin_shl32, u32_eq_zero, u32_ne_zero, List.length_cons, List.length_nil, Nat.le_refl, Nat.reduceAdd, Nat.reduceMul, Nat.reduceLeDiff, Int.toNat_zero, Int.toNat_one, hi4', ldP_row hrow, cellP_3 g0 g1 g2, putL_lit3, cellP_lit3]
    have hE45 : ∀ q, nx4 + 1 ≤ q → Ext H4 nx4 (hs (hs H4 nx4 (some (.cells [.int .i64 0, .int .u32 0, .int .i64 0] 0))) nx4 (some (.cells [.int .i64 b.var, .int .u32 (b.key : Int), .int .i64 b.par] 0))) q := fun q hq => ((Ext.self (by omega)).hs (Nat.le_refl _)).hs (Nat.le_refl _)
    by_cases hpar : 0 ≤ b.par
    · obtain ⟨p, hp⟩ := Int.eq_ofNat_of_zero_le hpar
      have hpn : p < n := by
        rcases (hright _ b hb).2.2 with ⟨_, h⟩ | ⟨_, _, h, _⟩ <;> omega
      obtain ⟨q, hq⟩ : ∃ q, bs[p]? = some q := ⟨_, List.getElem?_eq_getElem (by omega)⟩
      have hkq := hkey.get hq
      have k1 : row[o + p * 3 + 1]? = some (.int .u32 (q.key : Int)) := by
        have := fun j v hv => hget _ v (bagsC_get hq j v hv)
        exact this 1 _ rfl
      have hrow' : rowOf (hs (hs H4 nx4 (some (.cells [.int .i64 0, .int .u32 0, .int .i64 0] 0))) nx4 (some (.cells [.int .i64 b.var, .int .u32 (b.key : Int), .int .i64 b.par] 0))) B = some row := by rw [(hE45 _ (Nat.le_refl _)).row hBn]; exact hrow
      have hp32 := pow32 (show p < 32 by omega)
      have hpp : (0 : Int) ≤ (p : Int) := by omega
      rw [hp]
      have hnd := ndiff32 (b := 2 ^ p) hk
      simp (disch := first | omega | assumption | exact shr_lt (by assumption) | exact ndiff32 (by assumption) | exact below_lt (by omega) | fail) only [List.getD_cons_zero, List.getD_cons_succ, wBin_lss, wBin_leq, wBin_gtr, wBin_geq, wBin_eql, wBin_neq, wIf_bool, wGuard_true, wGuard_false, wPick_true, wPick_false, wUn_not, wFld_eq, wExt_eq, wPart_one, wPart_agg, wLen_slice, wLen_string, wNew_eq, wNm_eq, dBox_agg, dBox_int, dBox_slice, dBox_string, dBox_bool, dBox_map, dBox_ptr, oneCells, wLd_none, wLd_2, wLd_3, wLd_32, ldP_cells, ldP_rom, cellP_one, getH_same, getH_ne, forceV_eq, forceN_eq, hsK_eq, Option.elim_some, List.getElem?_cons_zero, List.getElem?_cons_succ, Yld.val, decide_true, decide_false, if_true, if_false, Bool.false_eq_true, Nat.zero_add, Nat.add_zero, and_true, true_and, or_false, Bool.not_true, Bool.not_false, and_self, wBin_add64, wBin_sub64, wIdx_slice, wIdx_array, wNilc_eq, Int.toNat_natCast, Nat.mul_one, Nat.zero_mul, wSt_agg, wSt_int, wSt_bool, wSt_string, wSt_slice, wSt_ptr, wSt_map, wSt_func, stP_cells, bit_one, bit_zero, bit_one', bit_zero', wBin_shr32, wBin_and1, wBin_rem2, wBin_andNot32, wBin_or32, wBin_and32, wBin_shl32, u32_eq_zero, u32_ne_zero, List.length_cons, List.length_nil, Nat.le_refl, Nat.reduceAdd, Nat.reduceMul, Nat.reduceLeDiff, Int.toNat_zero, Int.toNat_one, wJoin_eq, hpp, ldP_row hrow, k1]
      have hfit : fits1 bs b ↔ ndiff (ndiff b.key (2 ^ p)) q.key = 0 := by
        rw [ndiff2]
        constructor
        · intro h; have := h hpar q (by rw [hp]; exact hq); rw [hp] at this; exact this
        · intro h _ q' hq'
          rw [hp] at hq' ⊢
          have : q' = q := by
            have h2 : bs[p]? = some q' := hq'
            rw [hq] at h2; cases h2; rfl
          subst this; exact h
      by_cases hz : ndiff (ndiff b.key (2 ^ p)) q.key = 0
      · have d4 : decide (ndiff (ndiff b.key (2 ^ p)) q.key ≠ 0) = false := by simp [hz]
        simp (disch := first | omega | assumption | exact shr_lt (by assumption) | exact ndiff32 (by assumption) | exact below_lt (by omega) | fail) only [List.getD_cons_zero, List.getD_cons_succ, wBin_lss, wBin_leq, wBin_gtr, wBin_geq, wBin_eql, wBin_neq, wIf_bool, wGuard_true, wGuard_false, wPick_true, wPick_false, wUn_not, wFld_eq, wExt_eq, wPart_one, wPart_agg, wLen_slice, wLen_string, wNew_eq, wNm_eq, dBox_agg, dBox_int, dBox_slice, dBox_string, dBox_bool, dBox_map, dBox_ptr, oneCells, wLd_none, wLd_2, wLd_3, wLd_32, ldP_cells, ldP_rom, cellP_one, getH_same, getH_ne, forceV_eq, forceN_eq, hsK_eq, Option.elim_some, List.getElem?_cons_zero, List.getElem?_cons_succ, Yld.val, decide_true, decide_false, if_true, if_false, Bool.false_eq_true, Nat.zero_add, Nat.add_zero, and_true, true_and, or_false, Bool.not_true, Bool.not_false, and_self, wBin_add64, wBin_sub64, wIdx_slice, wIdx_array, wNilc_eq, Int.toNat_natCast, Nat.mul_one, Nat.zero_mul, wSt_agg, wSt_int, wSt_bool, wSt_string, wSt_slice, wSt_ptr, wSt_map, wSt_func, stP_cells, bit_one, bit_zero, bit_one', bit_zero', wBin_shr32, wBin_and1, wBin_rem2, wBin_andNot32, wBin_or32, wBin_and32, wBin_shl32, u32_eq_zero, u32_ne_zero, List.length_cons, List.length_nil, Nat.le_refl, Nat.reduceAdd, Nat.reduceMul, Nat.reduceLeDiff, Int.toNat_zero, Int.toNat_one, d4]
        refine hih4 (m4 - 1) _ _ _ (by omega) ⟨i4 + 1, by omega, by simp, fun j b' hj hb' => ?_, hE4.trans (by rw [← hp]; exact hE45 _ (by omega))⟩
        by_cases hji : j = i4
        · subst hji; rw [hb] at hb'; cases hb'; exact hfit.2 hz
        · exact hst4 j b' (by omega) hb'
      · have d4 : decide (ndiff (ndiff b.key (2 ^ p)) q.key ≠ 0) = true := by simp [hz]
        simp (disch := first | omega | assumption | exact shr_lt (by assumption) | exact ndiff32 (by assumption) | exact below_lt (by omega) | fail) only [List.getD_cons_zero, List.getD_cons_succ, wBin_lss, wBin_leq, wBin_gtr, wBin_geq, wBin_eql, wBin_neq, wIf_bool, wGuard_true, wGuard_false, wPick_true, wPick_false, wUn_not, wFld_eq, wExt_eq, wPart_one, wPart_agg, wLen_slice, wLen_string, wNew_eq, wNm_eq, dBox_agg, dBox_int, dBox_slice, dBox_string, dBox_bool, dBox_map, dBox_ptr, oneCells, wLd_none, wLd_2, wLd_3, wLd_32, ldP_cells, ldP_rom, cellP_one, getH_same, getH_ne, forceV_eq, forceN_eq, hsK_eq, Option.elim_some, List.getElem?_cons_zero, List.getElem?_cons_succ, Yld.val, decide_true, decide_false, if_true, if_false, Bool.false_eq_true, Nat.zero_add, Nat.add_zero, and_true, true_and, or_false, Bool.not_true, Bool.not_false, and_self, wBin_add64, wBin_sub64, wIdx_slice, wIdx_array, wNilc_eq, Int.toNat_natCast, Nat.mul_one, Nat.zero_mul, wSt_agg, wSt_int, wSt_bool, wSt_string, wSt_slice, wSt_ptr, wSt_map, wSt_func, stP_cells, bit_one, bit_zero, bit_one', bit_zero', wBin_shr32, wBin_and1, wBin_rem2, wBin_andNot32, wBin_or32, wBin_and32, wBin_shl32, u32_eq_zero, u32_ne_zero, List.length_cons, List.length_nil, Nat.le_refl, Nat.reduceAdd, Nat.reduceMul, Nat.reduceLeDiff, Int.toNat_zero, Int.toNat_one, d4]
        refine ⟨?_, hEE4.trans (by rw [← hp]; exact hE45 _ (by omega))⟩
        rw [ccode, if_neg (by simpa using hlen), if_neg (by simpa using hbad), if_neg hno, if_pos ⟨b, List.mem_of_getElem? hb, fun h => hz (hfit.1 h)⟩]
    · simp (disch := first | omega | assumption | exact shr_lt (by assumption) | exact ndiff32 (by assumption) | exact below_lt (by omega) | fail) only [List.getD_cons_zero, List.getD_cons_succ, wBin_lss, wBin_leq, wBin_gtr, wBin_geq, wBin_eql, wBin_neq, wIf_bool, wGuard_true, wGuard_false, wPick_true, wPick_false, wUn_not, wFld_eq, wExt_eq, wPart_one, wPart_agg, wLen_slice, wLen_string, wNew_eq, wNm_eq, dBox_agg, dBox_int, dBox_slice, dBox_string, dBox_bool, dBox_map, dBox_ptr, oneCells, wLd_none, wLd_2, wLd_3, wLd_32, ldP_cells, ldP_rom, cellP_one, getH_same, getH_ne, forceV_eq, forceN_eq, hsK_eq, Option.elim_some, List.getElem?_cons_zero, List.getElem?_cons_succ, Yld.val, decide_true, decide_false, if_true, if_false, Bool.false_eq_true, Nat.zero_add, Nat.add_zero, and_true, true_and, or_false, Bool.not_true, Bool.not_false, and_self, wBin_add64, wBin_sub64, wIdx_slice, wIdx_array, wNilc_eq, Int.toNat_natCast, Nat.mul_one, Nat.zero_mul, wSt_agg, wSt_int, wSt_bool, wSt_string, wSt_slice, wSt_ptr, wSt_map, wSt_func, stP_cells, bit_one, bit_zero, bit_one', bit_zero', wBin_shr32, wBin_and1, wBin_rem2, wBin_andNot32, wBin_or32, wBin_and32, wBin_shl32, u32_eq_zero, u32_ne_zero, List.length_cons, List.length_nil, Nat.le_refl, Nat.reduceAdd, Nat.reduceMul, Nat.reduceLeDiff, Int.toNat_zero, Int.toNat_one, wJoin_eq, hpar]
      refine hih4 (m4 - 1) _ _ _ (by omega) ⟨i4 + 1, by omega, by simp, fun j b' hj hb' => ?_, hE4.trans (hE45 _ (by omega))⟩
      by_cases hji : j = i4
      · subst hji; rw [hb] at hb'; cases hb'; exact fun h => absurd h hpar
      · exact hst4 j b' (by omega) hb'
  have hi4' : ¬ (i4 : Int) < (bs.length : Int) := by omega
  have hfits : ¬ ∃ b ∈ bs, ¬ fits1 bs b := by
    rintro ⟨b, hb, h⟩
    obtain ⟨j, hj, rfl⟩ := List.getElem_of_mem hb
    exact h (hst4 j _ (by omega) (List.getElem?_eq_getElem hj))
  simp (disch := first | omega | assumption | exact shr_lt (by assumption) | exact ndiff32 (by assumption) | exact below_lt (by omega) | fail) only [List.getD_cons_zero, List.getD_cons_succ, wBin_lss, wBin_leq, wBin_gtr, wBin_geq, wBin_eql, wBin_neq, wIf_bool, wGuard_true, wGuard_false, wPick_true, wPick_false, wUn_not, wFld_eq, wExt_eq, wPart_one, wPart_agg, wLen_slice, wLen_string, wNew_eq, wNm_eq, dBox_agg, dBox_int, dBox_slice, dBox_string, dBox_bool, dBox_map, dBox_ptr, oneCells, wLd_none, wLd_2, wLd_3, wLd_32, ldP_cells, ldP_rom, cellP_one, getH_same, getH_ne, forceV_eq, forceN_eq, hsK_eq, Option.elim_some, List.getElem?_cons_zero, List.getElem?_cons_succ, Yld.val, decide_true, decide_false, if_true, if_false, Bool.false_eq_true, Nat.zero_add, Nat.add_zero, and_true, true_and, or_false, Bool.not_true, Bool.not_false, and_self, wBin_add64, wBin_sub64, wIdx_slice, wIdx_array, wNilc_eq, Int.toNat_natCast, Nat.mul_one, Nat.zero_mul, wSt_agg, wSt_int, wSt_bool, wSt_string, wSt_slice, wSt_ptr, wSt_map, wSt_func, stP_cells, bit_one, bit_zero, bit_one', bit_zero', wBin_shr32, wBin_and1, wBin_rem2, wBin_andNot32, wBin_or32, wBin_and32, wBin_shl32, u32_eq_zero, u32_ne_zero, List.length_cons, List.length_nil, Nat.le_refl, Nat.reduceAdd, Nat.reduceMul, Nat.reduceLeDiff, Int.toNat_zero, Int.toNat_one, hi4', hg4]
  clear hih4
  -- the edges
  refine wLoop_rule (m := es.length) (fun m L H' nx' => ∃ i : Nat, m + i = es.length ∧ L = [.int .i64 (i : Int)] ∧ (∀ (j e : Nat), j < i → es[j]? = some e → covers bs e) ∧ Ext H4 nx4 H' nx') ?_ ⟨0, rfl, rfl, fun j b h => by omega, Ext.refl _ _⟩
  rintro m5 ih5 L5 H5 nx5 ⟨i5, hm5, rfl, hst5, hE5⟩ hih5
  have hEE5 := hEE4.trans hE5
  by_cases hi5 : i5 < es.length
  · have hi5' : (i5 : Int) < (es.length : Int) := by omega
    obtain ⟨e, he⟩ : ∃ e, es[i5]? = some e := ⟨_, List.getElem?_eq_getElem hi5⟩
    obtain ⟨A, o, row, rfl, hAn, hrow, hget⟩ := (hS.ext hEE5).open (i := i5) (by rw [u32s_length]; omega)
    have he32 := hsm.get he
    simp (disch := first | omega | assumption | exact shr_lt (by assumption) | exact ndiff32 (by assumption) | exact below_lt (by omega) | fail) only [List.getD_cons_zero, List.getD_cons_succ, wBin_lss, wBin_leq, wBin_gtr, wBin_geq, wBin_eql, wBin_neq, wIf_bool, wGuard_true, wGuard_false, wPick_true, wPick_false, wUn_not, wFld_eq, wExt_eq, wPart_one, wPart_agg, wLen_slice, wLen_string, wNew_eq, wNm_eq, dBox_agg, dBox_int, dBox_slice, dBox_string, dBox_bool, dBox_map, dBox_ptr, oneCells, wLd_none, wLd_2, wLd_3, wLd_32, ldP_cells, ldP_rom, cellP_one, getH_same, getH_ne, forceV_eq, forceN_eq, hsK_eq, Option.elim_some, List.getElem?_cons_zero, List.getElem?_cons_succ, Yld.val, decide_true, decide_false, if_true, if_false, Bool.false_eq_true, Nat.zero_add, Nat.add_zero, and_true, true_and, or_false, Bool.not_true, Bool.not_false, and_self, wBin_add64, wBin_sub64, wIdx_slice, wIdx_array, wNilc_eq, Int.toNat_natCast, Nat.mul_one, Nat.zero_mul, wSt_agg, wSt_int, wSt_bool, wSt_string, wSt_slice, wSt_ptr, wSt_map, wSt_func, stP_cells, bit_one, bit_zero, bit_one', bit_zero', wBin_shr32, wBin_and1, wBin_rem2, wBin_andNot32, wBin_or32, wBin_and32, wBin_shl32, u32_eq_zero, u32_ne_zero, List.length_cons, List.length_nil, Nat.le_refl, Nat.reduceAdd, Nat.reduceMul, Nat.reduceLeDiff, Int.toNat_zero, Int.toNat_one, hi5', ldP_row hrow, hget _ _ (u32s_get he)]
    refine wLoop_rule (m := bs.length) (fun m L H' nx' => ∃ (i : Nat) (c : Bool), m + i = bs.length ∧ L = [.bool c, .int .i64 (i : Int)] ∧ (c = true ↔ e = 0 ∨ ∃ (j : Nat) (b : Bag), j < i ∧ bs[j]? = some b ∧ inside e (setOf b)) ∧ Ext H5 nx5 H' nx') ?_ ⟨0, _, rfl, rfl, by simp, Ext.refl _ _⟩
    rintro m6 ih6 L6 H6 nx6 ⟨i6, c, hm6, rfl, hc, hE6⟩ hih6
    have hEE6 := hEE5.trans hE6
    simp (disch := first | omega | assumption | exact shr_lt (by assumption) | exact ndiff32 (by assumption) | exact below_lt (by omega) | fail) only [List.getD_cons_zero, List.getD_cons_succ, wBin_lss, wBin_leq, wBin_gtr, wBin_geq, wBin_eql, wBin_neq, wIf_bool, wGuard_true, wGuard_false, wPick_true, wPick_false, wUn_not, wFld_eq, wExt_eq, wPart_one, wPart_agg, wLen_slice, wLen_string, wNew_eq, wNm_eq, dBox_agg, dBox_int, dBox_slice, dBox_string, dBox_bool, dBox_map, dBox_ptr, oneCells, wLd_none, wLd_2, wLd_3, wLd_32, ldP_cells, ldP_rom, cellP_one, getH_same, getH_ne, forceV_eq, forceN_eq, hsK_eq, Option.elim_some, List.getElem?_cons_zero, List.getElem?_cons_succ, Yld.val, decide_true, decide_false, if_true, if_false, Bool.false_eq_true, Nat.zero_add, Nat.add_zero, and_true, true_and, or_false, Bool.not_true, Bool.not_false, and_self, wBin_add64, wBin_sub64, wIdx_slice, wIdx_array, wNilc_eq, Int.toNat_natCast, Nat.mul_one, Nat.zero_mul, wSt_agg, wSt_int, wSt_bool, wSt_string, wSt_slice, wSt_ptr, wSt_map, wSt_func, stP_cells, bit_one, bit_zero, bit_one', bit_zero', wBin_shr32, wBin_and1, wBin_rem2, wBin_andNot32, wBin_or32, wBin_and32, wBin_shl32, u32_eq_zero, u32_ne_zero, List.length_cons, List.length_nil, Nat.le_refl, Nat.reduceAdd, Nat.reduceMul, Nat.reduceLeDiff, Int.toNat_zero, Int.toNat_one]
    by_cases hi6 : i6 < bs.length
    · have hi6' : (i6 : Int) < (bs.length : Int) := by omega
      obtain ⟨b, hb⟩ : ∃ b, bs[i6]? = some b := ⟨_, List.getElem?_eq_getElem hi6⟩
      obtain ⟨B, o, row, rfl, hBn, hrow, hget⟩ := (hB.ext hEE6).open (i := i6 * 3) (by rw [bagsC_length]; omega)
      have hgg := fun j v hv => hget _ v (bagsC_get hb j v hv)
      have g0 : row[o + i6 * 3]? = some (.int .i64 b.var) := hgg 0 _ rfl
      have g1 : row[o + i6 * 3 + 1]? = some (.int .u32 (b.key : Int)) := hgg 1 _ rfl
      have g2 : row[o + i6 * 3 + 2]? = some (.int .i64 b.par) := hgg 2 _ rfl
      have hk := hkey.get hb
      simp (disch := first | omega | assumption | exact shr_lt (by assumption) | exact ndiff32 (by assumption) | exact below_lt (by omega) | fail) only [List.getD_cons_zero, List.getD_cons_succ, wBin_lss, wBin_leq, wBin_gtr, wBin_geq, wBin_eql, wBin_neq, wIf_bool, wGuard_true, wGuard_false, wPick_true, wPick_false, wUn_not, wFld_eq, wExt_eq, wPart_one, wPart_agg, wLen_slice, wLen_string, wNew_eq, wNm_eq, dBox_agg, dBox_int, dBox_slice, dBox_string, dBox_bool, dBox_map, dBox_ptr, oneCells, wLd_none, wLd_2, wLd_3, wLd_32, ldP_cells, ldP_rom, cellP_one, getH_same, getH_ne, forceV_eq, forceN_eq, hsK_eq, Option.elim_some, List.getElem?_cons_zero, List.getElem?_cons_succ, Yld.val, decide_true, decide_false, if_true, if_false, Bool.false_eq_true, Nat.zero_add, Nat.add_zero, and_true, true_and, or_false, Bool.not_true, Bool.not_false, and_self, wBin_add64, wBin_sub64, wIdx_slice, wIdx_array, wNilc_eq, Int.toNat_natCast, Nat.mul_one, Nat.zero_mul, wSt_agg, wSt_int, wSt_bool, wSt_string, wSt_slice, wSt_ptr, wSt_map, wSt_func, stP_cells, bit_one, bit_zero, bit_one', bit_zero', wBin_shr32, wBin_and1, wBin_rem2, wBin_andNot32, wBin_or32, wBin_and32, wBin_shl32, u32_eq_zero, u32_ne_zero, List.length_cons, List.length_nil, Nat.le_refl, Nat.reduceAdd, Nat.reduceMul, Nat.reduceLeDiff, Int.toNat_zero, Int.toNat_one, hi6', ldP_row hrow, cellP_3 g0 g1 g2, putL_lit3, cellP_lit3]
      have hE67 : Ext H6 nx6 (hs (hs H6 nx6 (some (.cells [.int .i64 0, .int .u32 0, .int .i64 0] 0))) nx6 (some (.cells [.int .i64 b.var, .int .u32 (b.key : Int), .int .i64 b.par] 0))) (nx6 + 1) := ((Ext.self (by omega)).hs (Nat.le_refl _)).hs (Nat.le_refl _)
      have next : ∀ (c' : Bool) H' nx', (c' = true ↔ c = true ∨ inside e (setOf b)) → Ext H6 nx6 H' nx' → ih6 [.bool c', .int .i64 ((i6 : Int) + 1)] H' nx' := by
        intro c' H' nx' hc' hE'
        refine hih6 (m6 - 1) _ _ _ (by omega) ⟨i6 + 1, c', by omega, by simp, ?_, hE6.trans hE'⟩
        rw [hc', hc]
        constructor
        · rintro ((h | ⟨j, b', h1, h2, h3⟩) | h)
          · exact .inl h
          · exact .inr ⟨j, b', by omega, h2, h3⟩
          · exact .inr ⟨i6, b, by omega, hb, h⟩
        · rintro (h | ⟨j, b', h1, h2, h3⟩)
          · exact .inl (.inl h)
          · by_cases hji : j = i6
            · subst hji; rw [hb] at h2; cases h2; exact .inr h3
            · exact .inl (.inr ⟨j, b', by omega, h2, h3⟩)
      cases c with
      | true =>
        simp (disch := first | omega | assumption | exact shr_lt (by assumption) | exact ndiff32 (by assumption) | exact below_lt (by omega) | fail) only [List.getD_cons_zero, List.getD_cons_succ, wBin_lss, wBin_leq, wBin_gtr, wBin_geq, wBin_eql, wBin_neq, wIf_bool, wGuard_true, wGuard_false, wPick_true, wPick_false, wUn_not, wFld_eq, wExt_eq, wPart_one, wPart_agg, wLen_slice, wLen_string, wNew_eq, wNm_eq, dBox_agg, dBox_int, dBox_slice, dBox_string, dBox_bool, dBox_map, dBox_ptr, oneCells, wLd_none, wLd_2, wLd_3, wLd_32, ldP_cells, ldP_rom, cellP_one, getH_same, getH_ne, forceV_eq, forceN_eq, hsK_eq, Option.elim_some, List.getElem?_cons_zero, List.getElem?_cons_succ, Yld.val, decide_true, decide_false, if_true, if_false, Bool.false_eq_true, Nat.zero_add, Nat.add_zero, and_true, true_and, or_false, Bool.not_true, Bool.not_false, and_self, wBin_add64, wBin_sub64, wIdx_slice, wIdx_array, wNilc_eq, Int.toNat_natCast, Nat.mul_one, Nat.zero_mul, wSt_agg, wSt_int, wSt_bool, wSt_string, wSt_slice, wSt_ptr, wSt_map, wSt_func, stP_cells, bit_one, bit_zero, bit_one', bit_zero', wBin_shr32, wBin_and1, wBin_rem2, wBin_andNot32, wBin_or32, wBin_and32, wBin_shl32, u32_eq_zero, u32_ne_zero, List.length_cons, List.length_nil, Nat.le_refl, Nat.reduceAdd, Nat.reduceMul, Nat.reduceLeDiff, Int.toNat_zero, Int.toNat_one, wJoin_eq]
        exact next true _ _ (by simp) hE67
      | false =>
        simp (disch := first | omega | assumption | exact shr_lt (by assumption) | exact ndiff32 (by assumption) | exact below_lt (by omega) | fail) only [List.getD_cons_zero, List.getD_cons_succ, wBin_lss, wBin_leq, wBin_gtr, wBin_geq, wBin_eql, wBin_neq, wIf_bool, wGuard_true, wGuard_false, wPick_true, wPick_false, wUn_not, wFld_eq, wExt_eq, wPart_one, wPart_agg, wLen_slice, wLen_string, wNew_eq, wNm_eq, dBox_agg, dBox_int, dBox_slice, dBox_string, dBox_bool, dBox_map, dBox_ptr, oneCells, wLd_none, wLd_2, wLd_3, wLd_32, ldP_cells, ldP_rom, cellP_one, getH_same, getH_ne, forceV_eq, forceN_eq, hsK_eq, Option.elim_some, List.getElem?_cons_zero, List.getElem?_cons_succ, Yld.val, decide_true, decide_false, if_true, if_false, Bool.false_eq_true, Nat.zero_add, Nat.add_zero, and_true, true_and, or_false, Bool.not_true, Bool.not_false, and_self, wBin_add64, wBin_sub64, wIdx_slice, wIdx_array, wNilc_eq, Int.toNat_natCast, Nat.mul_one, Nat.zero_mul, wSt_agg, wSt_int, wSt_bool, wSt_string, wSt_slice, wSt_ptr, wSt_map, wSt_func, stP_cells, bit_one, bit_zero, bit_one', bit_zero', wBin_shr32, wBin_and1, wBin_rem2, wBin_andNot32, wBin_or32, wBin_and32, wBin_shl32, u32_eq_zero, u32_ne_zero, List.length_cons, List.length_nil, Nat.le_refl, Nat.reduceAdd, Nat.reduceMul, Nat.reduceLeDiff, Int.toNat_zero, Int.toNat_one, wJoin_eq]
        refine wCall_rule (set20 (b := b) hk _ _) ?_
        rintro _ H7 nx7 ⟨rfl, hE7⟩
        have hset := setOf_lt hk
        simp (disch := first | omega | assumption | exact shr_lt (by assumption) | exact ndiff32 (by assumption) | exact below_lt (by omega) | fail) only [List.getD_cons_zero, List.getD_cons_succ, wBin_lss, wBin_leq, wBin_gtr, wBin_geq, wBin_eql, wBin_neq, wIf_bool, wGuard_true, wGuard_false, wPick_true, wPick_false, wUn_not, wFld_eq, wExt_eq, wPart_one, wPart_agg, wLen_slice, wLen_string, wNew_eq, wNm_eq, dBox_agg, dBox_int, dBox_slice, dBox_string, dBox_bool, dBox_map, dBox_ptr, oneCells, wLd_none, wLd_2, wLd_3, wLd_32, ldP_cells, ldP_rom, cellP_one, getH_same, getH_ne, forceV_eq, forceN_eq, hsK_eq, Option.elim_some, List.getElem?_cons_zero, List.getElem?_cons_succ, Yld.val, decide_true, decide_false, if_true, if_false, Bool.false_eq_true, Nat.zero_add, Nat.add_zero, and_true, true_and, or_false, Bool.not_true, Bool.not_false, and_self, wBin_add64, wBin_sub64, wIdx_slice, wIdx_array, wNilc_eq, Int.toNat_natCast, Nat.mul_one, Nat.zero_mul, wSt_agg, wSt_int, wSt_bool, wSt_string, wSt_slice, wSt_ptr, wSt_map, wSt_func, stP_cells, bit_one, bit_zero, bit_one', bit_zero', wBin_shr32, wBin_and1, wBin_rem2, wBin_andNot32, wBin_or32, wBin_and32, wBin_shl32, u32_eq_zero, u32_ne_zero, List.length_cons, List.length_nil, Nat.le_refl, Nat.reduceAdd, Nat.reduceMul, Nat.reduceLeDiff, Int.toNat_zero, Int.toNat_one]
        exact next _ _ _ (by simp [ndiff_zero]) (hE67.trans hE7)
    · have hi6' : ¬ (i6 : Int) < (bs.length : Int) := by omega
      have hcov : c = true ↔ covers bs e := by
        rw [hc]
        constructor
        · rintro (h | ⟨j, b, _, h2, h3⟩)
          · exact .inl h
          · exact .inr ⟨b, List.mem_of_getElem? h2, h3⟩
        · rintro (h | ⟨b, h2, h3⟩)
          · exact .inl h
          · obtain ⟨j, hj, rfl⟩ := List.getElem_of_mem h2
            exact .inr ⟨j, _, by omega, List.getElem?_eq_getElem hj, h3⟩
      cases c with
      | false =>
        simp (disch := first | omega | assumption | exact shr_lt (by assumption) | exact ndiff32 (by assumption) | exact below_lt (by omega) | fail) only [List.getD_cons_zero, List.getD_cons_succ, wBin_lss, wBin_leq, wBin_gtr, wBin_geq, wBin_eql, wBin_neq, wIf_bool, wGuard_true, wGuard_false, wPick_true, wPick_false, wUn_not, wFld_eq, wExt_eq, wPart_one, wPart_agg, wLen_slice, wLen_string, wNew_eq, wNm_eq, dBox_agg, dBox_int, dBox_slice, dBox_string, dBox_bool, dBox_map, dBox_ptr, oneCells, wLd_none, wLd_2, wLd_3, wLd_32, ldP_cells, ldP_rom, cellP_one, getH_same, getH_ne, forceV_eq, forceN_eq, hsK_eq, Option.elim_some, List.getElem?_cons_zero, List.getElem?_cons_succ, Yld.val, decide_true, decide_false, if_true, if_false, Bool.false_eq_true, Nat.zero_add, Nat.add_zero, and_true, true_and, or_false, Bool.not_true, Bool.not_false, and_self, wBin_add64, wBin_sub64, wIdx_slice, wIdx_array, wNilc_eq, Int.toNat_natCast, Nat.mul_one, Nat.zero_mul, wSt_agg, wSt_int, wSt_bool, wSt_string, wSt_slice, wSt_ptr, wSt_map, wSt_func, stP_cells, bit_one, bit_zero, bit_one', bit_zero', wBin_shr32, wBin_and1, wBin_rem2, wBin_andNot32, wBin_or32, wBin_and32, wBin_shl32, u32_eq_zero, u32_ne_zero, List.length_cons, List.length_nil, Nat.le_refl, Nat.reduceAdd, Nat.reduceMul, Nat.reduceLeDiff, Int.toNat_zero, Int.toNat_one, hi6']
        refine ⟨?_, hEE6⟩
        rw [ccode, if_neg (by simpa using hlen), if_neg (by simpa using hbad), if_neg hno, if_neg hfits, if_pos ⟨e, List.mem_of_getElem? he, fun h => by have := hcov.2 h; cases this⟩]
      | true =>
        simp (disch := first | omega | assumption | exact shr_lt (by assumption) | exact ndiff32 (by assumption) | exact below_lt (by omega) | fail) only [List.getD_cons_zero, List.getD_cons_succ, wBin_lss, wBin_leq, wBin_gtr, wBin_geq, wBin_eql, wBin_neq, wIf_bool, wGuard_true, wGuard_false, wPick_true, wPick_false, wUn_not, wFld_eq, wExt_eq, wPart_one, wPart_agg, wLen_slice, wLen_string, wNew_eq, wNm_eq, dBox_agg, dBox_int, dBox_slice, dBox_string, dBox_bool, dBox_map, dBox_ptr, oneCells, wLd_none, wLd_2, wLd_3, wLd_32, ldP_cells, ldP_rom, cellP_one, getH_same, getH_ne, forceV_eq, forceN_eq, hsK_eq, Option.elim_some, List.getElem?_cons_zero, List.getElem?_cons_succ, Yld.val, decide_true, decide_false, if_true, if_false, Bool.false_eq_true, Nat.zero_add, Nat.add_zero, and_true, true_and, or_false, Bool.not_true, Bool.not_false, and_self, wBin_add64, wBin_sub64, wIdx_slice, wIdx_array, wNilc_eq, Int.toNat_natCast, Nat.mul_one, Nat.zero_mul, wSt_agg, wSt_int, wSt_bool, wSt_string, wSt_slice, wSt_ptr, wSt_map, wSt_func, stP_cells, bit_one, bit_zero, bit_one', bit_zero', wBin_shr32, wBin_and1, wBin_rem2, wBin_andNot32, wBin_or32, wBin_and32, wBin_shl32, u32_eq_zero, u32_ne_zero, List.length_cons, List.length_nil, Nat.le_refl, Nat.reduceAdd, Nat.reduceMul, Nat.reduceLeDiff, Int.toNat_zero, Int.toNat_one, hi6']
        refine hih5 (m5 - 1) _ _ _ (by omega) ⟨i5 + 1, by omega, by simp, fun j e' hj he' => ?_, hE5.trans hE6⟩
        by_cases hji : j = i5
        · subst hji; rw [he] at he'; cases he'; exact hcov.1 rfl
        · exact hst5 j e' (by omega) he'
  · have hi5' : ¬ (i5 : Int) < (es.length : Int) := by omega
    simp (disch := first | omega | assumption | exact shr_lt (by assumption) | exact ndiff32 (by assumption) | exact below_lt (by omega) | fail) only [List.getD_cons_zero, List.getD_cons_succ, wBin_lss, wBin_leq, wBin_gtr, wBin_geq, wBin_eql, wBin_neq, wIf_bool, wGuard_true, wGuard_false, wPick_true, wPick_false, wUn_not, wFld_eq, wExt_eq, wPart_one, wPart_agg, wLen_slice, wLen_string, wNew_eq, wNm_eq, dBox_agg, dBox_int, dBox_slice, dBox_string, dBox_bool, dBox_map, dBox_ptr, oneCells, wLd_none, wLd_2, wLd_3, wLd_32, ldP_cells, ldP_rom, cellP_one, getH_same, getH_ne, forceV_eq, forceN_eq, hsK_eq, Option.elim_some, List.getElem?_cons_zero, List.getElem?_cons_succ, Yld.val, decide_true, decide_false, if_true, if_false, Bool.false_eq_true, Nat.zero_add, Nat.add_zero, and_true, true_and, or_false, Bool.not_true, Bool.not_false, and_self, wBin_add64, wBin_sub64, wIdx_slice, wIdx_array, wNilc_eq, Int.toNat_natCast, Nat.mul_one, Nat.zero_mul, wSt_agg, wSt_int, wSt_bool, wSt_string, wSt_slice, wSt_ptr, wSt_map, wSt_func, stP_cells, bit_one, bit_zero, bit_one', bit_zero', wBin_shr32, wBin_and1, wBin_rem2, wBin_andNot32, wBin_or32, wBin_and32, wBin_shl32, u32_eq_zero, u32_ne_zero, List.length_cons, List.length_nil, Nat.le_refl, Nat.reduceAdd, Nat.reduceMul, Nat.reduceLeDiff, Int.toNat_zero, Int.toNat_one, hi5']
    refine ⟨?_, hEE5⟩
    have hcov : ¬ ∃ e ∈ es, ¬ covers bs e := by
      rintro ⟨e, he, h⟩
      obtain ⟨j, hj, rfl⟩ := List.getElem_of_mem he
      exact h (hst5 j _ (by omega) (List.getElem?_eq_getElem hj))
    rw [ccode, if_neg (by simpa using hlen), if_neg (by simpa using hbad), if_neg hno, if_neg hfits, if_neg hcov]
end Go.Proofs.Ytaieijjfabbfeaa
