/-
  Contracts: strings.Split at a blank, the index of a string in a list.
-/
import Derived.Test.YtjpgddpobnjmkaaDoorK19
set_option linter.unusedSimpArgs false
set_option linter.unusedVariables false
set_option linter.unusedSectionVars false
namespace Go.Proofs.YtjpgddpobnjmkaaDoor
open Go.Clo

/-- The first index of a string, or -1. -/
def idxOf (l : List ByteArray) (s : ByteArray) : Int := if l.findIdx (fun t => decide (t = s)) < l.length then (l.findIdx (fun t => decide (t = s)) : Nat) else -1
theorem idxOf_yes {l : List ByteArray} {s : ByteArray} (h : s ∈ l) : idxOf l s = (l.findIdx (fun t => decide (t = s)) : Nat) := if_pos (List.findIdx_lt_length.2 ⟨s, h, by simp⟩)
theorem idxOf_not {l : List ByteArray} {s : ByteArray} (h : s ∉ l) : idxOf l s = -1 := if_neg fun h' => by
  obtain ⟨x, h1, h2⟩ := List.findIdx_lt_length.1 h'
  simp at h2
  exact h (h2 ▸ h1)
theorem idxOf_at {l : List ByteArray} {s : ByteArray} {i : Nat} (h : l[i]? = some s) (hno : ∀ (j : Nat) (t : ByteArray), j < i → l[j]? = some t → t ≠ s) : idxOf l s = i := by
  obtain ⟨hi, e⟩ := List.getElem?_eq_some_iff.1 h
  rw [idxOf_yes (List.mem_of_getElem? h)]
  congr 1
  rw [List.findIdx_eq hi]
  refine ⟨by simp [e], fun j hj => ?_⟩
  have := hno j _ hj (List.getElem?_eq_getElem (by omega))
  simpa using this
theorem idxOf_none {l : List ByteArray} {s : ByteArray} (hno : ∀ (j : Nat) (t : ByteArray), l[j]? = some t → t ≠ s) : idxOf l s = -1 := by
  refine idxOf_not fun h => ?_
  obtain ⟨j, hj⟩ := List.mem_iff_getElem?.1 h
  exact hno j s hj rfl
theorem index22 (A : Option Addr) (l : List ByteArray) (s : ByteArray) (cap : Nat) (H : Heap) (nx : Nat) (hS : Sl H nx A (strs l)) (hl : l.length ≤ 1000000) : Ans Tryd.prog 22 [.slice A l.length cap, .string s] H nx fun r H' nx' => .int .i64 (idxOf l s) = r ∧ H = H' ∧ nx = nx' := by
  refine spec22 ?_
  unfold F22
  simp (disch := first | omega | assumption | exact shr_lt (by assumption) | exact ndiff32 (by assumption) | exact below_lt (by omega) | fail) only [List.getD_cons_zero, List.getD_cons_succ, wBin_lss, wBin_leq, wBin_gtr, wBin_geq, wBin_eql, wBin_neq, wIf_bool, wGuard_true, wGuard_false, wPick_true, wPick_false, wUn_not, wFld_eq, wExt_eq, wPart_one, wPart_agg, wLen_slice, wLen_string, wNew_eq, wNm_eq, dBox_agg, dBox_int, dBox_slice, dBox_string, dBox_bool, dBox_map, dBox_ptr, oneCells, wLd_none, wLd_2, wLd_3, wLd_32, ldP_cells, ldP_rom, cellP_one, getH_same, getH_ne, forceV_eq, forceN_eq, hsK_eq, Option.elim_some, List.getElem?_cons_zero, List.getElem?_cons_succ, Yld.val, decide_true, decide_false, if_true, if_false, Bool.false_eq_true, Nat.zero_add, Nat.add_zero, and_true, true_and, or_false, Bool.not_true, Bool.not_false, and_self, wBin_add64, wBin_sub64, wIdx_slice, wIdx_array, wNilc_eq, Int.toNat_natCast, Nat.mul_one, Nat.zero_mul, wSt_agg, wSt_int, wSt_bool, wSt_string, wSt_slice, wSt_ptr, wSt_map, wSt_func, stP_cells, bit_one, bit_zero, bit_one', bit_zero', wBin_shr32, wBin_and1, wBin_rem2, wBin_andNot32, wBin_or32, wBin_and32, wBin_shl32, u32_eq_zero, u32_ne_zero, List.length_cons, List.length_nil, Nat.le_refl, Nat.reduceAdd, Nat.reduceMul, Nat.reduceLeDiff, Int.toNat_zero, Int.toNat_one]
  refine wLoop_rule (fun m L H' nx' => ∃ i : Nat, m + i = l.length ∧ L = [.int .i64 (i : Int)] ∧ (∀ (j : Nat) (t : ByteArray), j < i → l[j]? = some t → t ≠ s) ∧ H = H' ∧ nx = nx') ?_ (m := l.length) ⟨0, by omega, rfl, fun j t hj => by omega, rfl, rfl⟩
  rintro m ih L _ _ ⟨i, hm, rfl, hst, rfl, rfl⟩ hih
  simp (disch := first | omega | assumption | exact shr_lt (by assumption) | exact ndiff32 (by assumption) | exact below_lt (by omega) | fail) only [List.getD_cons_zero, List.getD_cons_succ, wBin_lss, wBin_leq, wBin_gtr, wBin_geq, wBin_eql, wBin_neq, wIf_bool, wGuard_true, wGuard_false, wPick_true, wPick_false, wUn_not, wFld_eq, wExt_eq, wPart_one, wPart_agg, wLen_slice, wLen_string, wNew_eq, wNm_eq, dBox_agg, dBox_int, dBox_slice, dBox_string, dBox_bool, dBox_map, dBox_ptr, oneCells, wLd_none, wLd_2, wLd_3, wLd_32, ldP_cells, ldP_rom, cellP_one, getH_same, getH_ne, forceV_eq, forceN_eq, hsK_eq, Option.elim_some, List.getElem?_cons_zero, List.getElem?_cons_succ, Yld.val, decide_true, decide_false, if_true, if_false, Bool.false_eq_true, Nat.zero_add, Nat.add_zero, and_true, true_and, or_false, Bool.not_true, Bool.not_false, and_self, wBin_add64, wBin_sub64, wIdx_slice, wIdx_array, wNilc_eq, Int.toNat_natCast, Nat.mul_one, Nat.zero_mul, wSt_agg, wSt_int, wSt_bool, wSt_string, wSt_slice, wSt_ptr, wSt_map, wSt_func, stP_cells, bit_one, bit_zero, bit_one', bit_zero', wBin_shr32, wBin_and1, wBin_rem2, wBin_andNot32, wBin_or32, wBin_and32, wBin_shl32, u32_eq_zero, u32_ne_zero, List.length_cons, List.length_nil, Nat.le_refl, Nat.reduceAdd, Nat.reduceMul, Nat.reduceLeDiff, Int.toNat_zero, Int.toNat_one]
  by_cases hi : i < l.length
  · have hi' : (i : Int) < (l.length : Int) := by omega
    obtain ⟨b, o, row, rfl, hb, hrow, hget⟩ := hS.open (i := i) (by rw [strs_length]; exact hi)
    have hv0 : l[i]? = some l[i] := List.getElem?_eq_getElem hi
    generalize l[i] = z at hv0
    by_cases he : s = z
    · have d : decide (s = z) = true := by simp [he]
      simp (disch := first | omega | assumption | exact shr_lt (by assumption) | exact ndiff32 (by assumption) | exact below_lt (by omega) | fail) only [List.getD_cons_zero, List.getD_cons_succ, wBin_lss, wBin_leq, wBin_gtr, wBin_geq, wBin_eql, wBin_neq, wIf_bool, wGuard_true, wGuard_false, wPick_true, wPick_false, wUn_not, wFld_eq, wExt_eq, wPart_one, wPart_agg, wLen_slice, wLen_string, wNew_eq, wNm_eq, dBox_agg, dBox_int, dBox_slice, dBox_string, dBox_bool, dBox_map, dBox_ptr, oneCells, wLd_none, wLd_2, wLd_3, wLd_32, ldP_cells, ldP_rom, cellP_one, getH_same, getH_ne, forceV_eq, forceN_eq, hsK_eq, Option.elim_some, List.getElem?_cons_zero, List.getElem?_cons_succ, Yld.val, decide_true, decide_false, if_true, if_false, Bool.false_eq_true, Nat.zero_add, Nat.add_zero, and_true, true_and, or_false, Bool.not_true, Bool.not_false, and_self, wBin_add64, wBin_sub64, wIdx_slice, wIdx_array, wNilc_eq, Int.toNat_natCast, Nat.mul_one, Nat.zero_mul, wSt_agg, wSt_int, wSt_bool, wSt_string, wSt_slice, wSt_ptr, wSt_map, wSt_func, stP_cells, bit_one, bit_zero, bit_one', bit_zero', wBin_shr32, wBin_and1, wBin_rem2, wBin_andNot32, wBin_or32, wBin_and32, wBin_shl32, u32_eq_zero, u32_ne_zero, List.length_cons, List.length_nil, Nat.le_refl, Nat.reduceAdd, Nat.reduceMul, Nat.reduceLeDiff, Int.toNat_zero, Int.toNat_one, hi', ldP_row hrow, hget _ _ (strs_get hv0), wBin_streq, d]
      rw [idxOf_at (by rw [he]; exact hv0) hst]
    · have d : decide (s = z) = false := by simp [he]
      simp (disch := first | omega | assumption | exact shr_lt (by assumption) | exact ndiff32 (by assumption) | exact below_lt (by omega) | fail) only [List.getD_cons_zero, List.getD_cons_succ, wBin_lss, wBin_leq, wBin_gtr, wBin_geq, wBin_eql, wBin_neq, wIf_bool, wGuard_true, wGuard_false, wPick_true, wPick_false, wUn_not, wFld_eq, wExt_eq, wPart_one, wPart_agg, wLen_slice, wLen_string, wNew_eq, wNm_eq, dBox_agg, dBox_int, dBox_slice, dBox_string, dBox_bool, dBox_map, dBox_ptr, oneCells, wLd_none, wLd_2, wLd_3, wLd_32, ldP_cells, ldP_rom, cellP_one, getH_same, getH_ne, forceV_eq, forceN_eq, hsK_eq, Option.elim_some, List.getElem?_cons_zero, List.getElem?_cons_succ, Yld.val, decide_true, decide_false, if_true, if_false, Bool.false_eq_true, Nat.zero_add, Nat.add_zero, and_true, true_and, or_false, Bool.not_true, Bool.not_false, and_self, wBin_add64, wBin_sub64, wIdx_slice, wIdx_array, wNilc_eq, Int.toNat_natCast, Nat.mul_one, Nat.zero_mul, wSt_agg, wSt_int, wSt_bool, wSt_string, wSt_slice, wSt_ptr, wSt_map, wSt_func, stP_cells, bit_one, bit_zero, bit_one', bit_zero', wBin_shr32, wBin_and1, wBin_rem2, wBin_andNot32, wBin_or32, wBin_and32, wBin_shl32, u32_eq_zero, u32_ne_zero, List.length_cons, List.length_nil, Nat.le_refl, Nat.reduceAdd, Nat.reduceMul, Nat.reduceLeDiff, Int.toNat_zero, Int.toNat_one, hi', ldP_row hrow, hget _ _ (strs_get hv0), wBin_streq, d]
      exact hih (m - 1) _ _ _ (by omega) ⟨i + 1, by omega, by simp, fun j t hj ht => by
        by_cases hji : j = i
        · subst hji; rw [hv0] at ht; cases ht; exact fun h => he h.symm
        · exact hst j t (by omega) ht, rfl, rfl⟩
  · have hi' : ¬ (i : Int) < (l.length : Int) := by omega
    simp (disch := first | omega | assumption | exact shr_lt (by assumption) | exact ndiff32 (by assumption) | exact below_lt (by omega) | fail) only [List.getD_cons_zero, List.getD_cons_succ, wBin_lss, wBin_leq, wBin_gtr, wBin_geq, wBin_eql, wBin_neq, wIf_bool, wGuard_true, wGuard_false, wPick_true, wPick_false, wUn_not, wFld_eq, wExt_eq, wPart_one, wPart_agg, wLen_slice, wLen_string, wNew_eq, wNm_eq, dBox_agg, dBox_int, dBox_slice, dBox_string, dBox_bool, dBox_map, dBox_ptr, oneCells, wLd_none, wLd_2, wLd_3, wLd_32, ldP_cells, ldP_rom, cellP_one, getH_same, getH_ne, forceV_eq, forceN_eq, hsK_eq, Option.elim_some, List.getElem?_cons_zero, List.getElem?_cons_succ, Yld.val, decide_true, decide_false, if_true, if_false, Bool.false_eq_true, Nat.zero_add, Nat.add_zero, and_true, true_and, or_false, Bool.not_true, Bool.not_false, and_self, wBin_add64, wBin_sub64, wIdx_slice, wIdx_array, wNilc_eq, Int.toNat_natCast, Nat.mul_one, Nat.zero_mul, wSt_agg, wSt_int, wSt_bool, wSt_string, wSt_slice, wSt_ptr, wSt_map, wSt_func, stP_cells, bit_one, bit_zero, bit_one', bit_zero', wBin_shr32, wBin_and1, wBin_rem2, wBin_andNot32, wBin_or32, wBin_and32, wBin_shl32, u32_eq_zero, u32_ne_zero, List.length_cons, List.length_nil, Nat.le_refl, Nat.reduceAdd, Nat.reduceMul, Nat.reduceLeDiff, Int.toNat_zero, Int.toNat_one, hi']
    rw [idxOf_none fun j t ht => hst j t (by have := (List.getElem?_eq_some_iff.1 ht).1; omega) ht]
theorem index26 (A : Option Addr) (l : List ByteArray) (s : ByteArray) (cap : Nat) (H : Heap) (nx : Nat) (hS : Sl H nx A (strs l)) (hl : l.length ≤ 1000000) : Ans Tryd.prog 26 [.slice A l.length cap, .string s] H nx fun r H' nx' => .int .i64 (idxOf l s) = r ∧ H = H' ∧ nx = nx' := by
  refine spec26 ?_
  unfold F26
  refine wLoop_rule (fun m L H' nx' => ∃ i : Nat, m + i = l.length ∧ L = [.int .i64 (i : Int)] ∧ (∀ (j : Nat) (t : ByteArray), j < i → l[j]? = some t → t ≠ s) ∧ H = H' ∧ nx = nx') ?_ (m := l.length) ⟨0, by omega, rfl, fun j t hj => by omega, rfl, rfl⟩
  rintro m ih L _ _ ⟨i, hm, rfl, hst, rfl, rfl⟩ hih
  simp (disch := first | omega | assumption | exact shr_lt (by assumption) | exact ndiff32 (by assumption) | exact below_lt (by omega) | fail) only [List.getD_cons_zero, List.getD_cons_succ, wBin_lss, wBin_leq, wBin_gtr, wBin_geq, wBin_eql, wBin_neq, wIf_bool, wGuard_true, wGuard_false, wPick_true, wPick_false, wUn_not, wFld_eq, wExt_eq, wPart_one, wPart_agg, wLen_slice, wLen_string, wNew_eq, wNm_eq, dBox_agg, dBox_int, dBox_slice, dBox_string, dBox_bool, dBox_map, dBox_ptr, oneCells, wLd_none, wLd_2, wLd_3, wLd_32, ldP_cells, ldP_rom, cellP_one, getH_same, getH_ne, forceV_eq, forceN_eq, hsK_eq, Option.elim_some, List.getElem?_cons_zero, List.getElem?_cons_succ, Yld.val, decide_true, decide_false, if_true, if_false, Bool.false_eq_true, Nat.zero_add, Nat.add_zero, and_true, true_and, or_false, Bool.not_true, Bool.not_false, and_self, wBin_add64, wBin_sub64, wIdx_slice, wIdx_array, wNilc_eq, Int.toNat_natCast, Nat.mul_one, Nat.zero_mul, wSt_agg, wSt_int, wSt_bool, wSt_string, wSt_slice, wSt_ptr, wSt_map, wSt_func, stP_cells, bit_one, bit_zero, bit_one', bit_zero', wBin_shr32, wBin_and1, wBin_rem2, wBin_andNot32, wBin_or32, wBin_and32, wBin_shl32, u32_eq_zero, u32_ne_zero, List.length_cons, List.length_nil, Nat.le_refl, Nat.reduceAdd, Nat.reduceMul, Nat.reduceLeDiff, Int.toNat_zero, Int.toNat_one]
  by_cases hi : i < l.length
  · have hi' : (i : Int) < (l.length : Int) := by omega
    obtain ⟨b, o, row, rfl, hb, hrow, hget⟩ := hS.open (i := i) (by rw [strs_length]; exact hi)
    have hv0 : l[i]? = some l[i] := List.getElem?_eq_getElem hi
    generalize l[i] = z at hv0
    by_cases he : z = s
    · have d : decide (z = s) = true := by simp [he]
      simp (disch := first | omega | assumption | exact shr_lt (by assumption) | exact ndiff32 (by assumption) | exact below_lt (by omega) | fail) only [List.getD_cons_zero, List.getD_cons_succ, wBin_lss, wBin_leq, wBin_gtr, wBin_geq, wBin_eql, wBin_neq, wIf_bool, wGuard_true, wGuard_false, wPick_true, wPick_false, wUn_not, wFld_eq, wExt_eq, wPart_one, wPart_agg, wLen_slice, wLen_string, wNew_eq, wNm_eq, dBox_agg, dBox_int, dBox_slice, dBox_string, dBox_bool, dBox_map, dBox_ptr, oneCells, wLd_none, wLd_2, wLd_3, wLd_32, ldP_cells, ldP_rom, cellP_one, getH_same, getH_ne, forceV_eq, forceN_eq, hsK_eq, Option.elim_some, List.getElem?_cons_zero, List.getElem?_cons_succ, Yld.val, decide_true, decide_false, if_true, if_false, Bool.false_eq_true, Nat.zero_add, Nat.add_zero, and_true, true_and, or_false, Bool.not_true, Bool.not_false, and_self, wBin_add64, wBin_sub64, wIdx_slice, wIdx_array, wNilc_eq, Int.toNat_natCast, Nat.mul_one, Nat.zero_mul, wSt_agg, wSt_int, wSt_bool, wSt_string, wSt_slice, wSt_ptr, wSt_map, wSt_func, stP_cells, bit_one, bit_zero, bit_one', bit_zero', wBin_shr32, wBin_and1, wBin_rem2, wBin_andNot32, wBin_or32, wBin_and32, wBin_shl32, u32_eq_zero, u32_ne_zero, List.length_cons, List.length_nil, Nat.le_refl, Nat.reduceAdd, Nat.reduceMul, Nat.reduceLeDiff, Int.toNat_zero, Int.toNat_one, hi', ldP_row hrow, hget _ _ (strs_get hv0), wBin_streq, d]
      rw [idxOf_at (by rw [← he]; exact hv0) hst]
    · have d : decide (z = s) = false := by simp [he]
      simp (disch := first | omega | assumption | exact shr_lt (by assumption) | exact ndiff32 (by assumption) | exact below_lt (by omega) | fail) only [List.getD_cons_zero, List.getD_cons_succ, wBin_lss, wBin_leq, wBin_gtr, wBin_geq, wBin_eql, wBin_neq, wIf_bool, wGuard_true, wGuard_false, wPick_true, wPick_false, wUn_not, wFld_eq, wExt_eq, wPart_one, wPart_agg, wLen_slice, wLen_string, wNew_eq, wNm_eq, dBox_agg, dBox_int, dBox_slice, dBox_string, dBox_bool, dBox_map, dBox_ptr, oneCells, wLd_none, wLd_2, wLd_3, wLd_32, ldP_cells, ldP_rom, cellP_one, getH_same, getH_ne, forceV_eq, forceN_eq, hsK_eq, Option.elim_some, List.getElem?_cons_zero, List.getElem?_cons_succ, Yld.val, decide_true, decide_false, if_true, if_false, Bool.false_eq_true, Nat.zero_add, Nat.add_zero, and_true, true_and, or_false, Bool.not_true, Bool.not_false, and_self, wBin_add64, wBin_sub64, wIdx_slice, wIdx_array, wNilc_eq, Int.toNat_natCast, Nat.mul_one, Nat.zero_mul, wSt_agg, wSt_int, wSt_bool, wSt_string, wSt_slice, wSt_ptr, wSt_map, wSt_func, stP_cells, bit_one, bit_zero, bit_one', bit_zero', wBin_shr32, wBin_and1, wBin_rem2, wBin_andNot32, wBin_or32, wBin_and32, wBin_shl32, u32_eq_zero, u32_ne_zero, List.length_cons, List.length_nil, Nat.le_refl, Nat.reduceAdd, Nat.reduceMul, Nat.reduceLeDiff, Int.toNat_zero, Int.toNat_one, hi', ldP_row hrow, hget _ _ (strs_get hv0), wBin_streq, d]
      exact hih (m - 1) _ _ _ (by omega) ⟨i + 1, by omega, by simp, fun j t hj ht => by
        by_cases hji : j = i
        · subst hji; rw [hv0] at ht; cases ht; exact he
        · exact hst j t (by omega) ht, rfl, rfl⟩
  · have hi' : ¬ (i : Int) < (l.length : Int) := by omega
    simp (disch := first | omega | assumption | exact shr_lt (by assumption) | exact ndiff32 (by assumption) | exact below_lt (by omega) | fail) only [List.getD_cons_zero, List.getD_cons_succ, wBin_lss, wBin_leq, wBin_gtr, wBin_geq, wBin_eql, wBin_neq, wIf_bool, wGuard_true, wGuard_false, wPick_true, wPick_false, wUn_not, wFld_eq, wExt_eq, wPart_one, wPart_agg, wLen_slice, wLen_string, wNew_eq, wNm_eq, dBox_agg, dBox_int, dBox_slice, dBox_string, dBox_bool, dBox_map, dBox_ptr, oneCells, wLd_none, wLd_2, wLd_3, wLd_32, ldP_cells, ldP_rom, cellP_one, getH_same, getH_ne, forceV_eq, forceN_eq, hsK_eq, Option.elim_some, List.getElem?_cons_zero, List.getElem?_cons_succ, Yld.val, decide_true, decide_false, if_true, if_false, Bool.false_eq_true, Nat.zero_add, Nat.add_zero, and_true, true_and, or_false, Bool.not_true, Bool.not_false, and_self, wBin_add64, wBin_sub64, wIdx_slice, wIdx_array, wNilc_eq, Int.toNat_natCast, Nat.mul_one, Nat.zero_mul, wSt_agg, wSt_int, wSt_bool, wSt_string, wSt_slice, wSt_ptr, wSt_map, wSt_func, stP_cells, bit_one, bit_zero, bit_one', bit_zero', wBin_shr32, wBin_and1, wBin_rem2, wBin_andNot32, wBin_or32, wBin_and32, wBin_shl32, u32_eq_zero, u32_ne_zero, List.length_cons, List.length_nil, Nat.le_refl, Nat.reduceAdd, Nat.reduceMul, Nat.reduceLeDiff, Int.toNat_zero, Int.toNat_one, hi']
    rw [idxOf_none fun j t ht => hst j t (by have := (List.getElem?_eq_some_iff.1 ht).1; omega) ht]
theorem contains23 (A : Option Addr) (l : List ByteArray) (s : ByteArray) (cap : Nat) (H : Heap) (nx : Nat) (hS : Sl H nx A (strs l)) (hl : l.length ≤ 1000000) : Ans Tryd.prog 23 [.slice A l.length cap, .string s] H nx fun r H' nx' => .bool (decide (0 ≤ idxOf l s)) = r ∧ H = H' ∧ nx = nx' := by
  refine spec23 ?_
  unfold F23
  refine wCall_rule (index22 A l s cap H nx hS hl) ?_
  rintro _ _ _ ⟨rfl, rfl, rfl⟩
  simp (disch := first | omega | assumption | exact shr_lt (by assumption) | exact ndiff32 (by assumption) | exact below_lt (by omega) | fail) only [List.getD_cons_zero, List.getD_cons_succ, wBin_lss, wBin_leq, wBin_gtr, wBin_geq, wBin_eql, wBin_neq, wIf_bool, wGuard_true, wGuard_false, wPick_true, wPick_false, wUn_not, wFld_eq, wExt_eq, wPart_one, wPart_agg, wLen_slice, wLen_string, wNew_eq, wNm_eq, dBox_agg, dBox_int, dBox_slice, dBox_string, dBox_bool, dBox_map, dBox_ptr, oneCells, wLd_none, wLd_2, wLd_3, wLd_32, ldP_cells, ldP_rom, cellP_one, getH_same, getH_ne, forceV_eq, forceN_eq, hsK_eq, Option.elim_some, List.getElem?_cons_zero, List.getElem?_cons_succ, Yld.val, decide_true, decide_false, if_true, if_false, Bool.false_eq_true, Nat.zero_add, Nat.add_zero, and_true, true_and, or_false, Bool.not_true, Bool.not_false, and_self, wBin_add64, wBin_sub64, wIdx_slice, wIdx_array, wNilc_eq, Int.toNat_natCast, Nat.mul_one, Nat.zero_mul, wSt_agg, wSt_int, wSt_bool, wSt_string, wSt_slice, wSt_ptr, wSt_map, wSt_func, stP_cells, bit_one, bit_zero, bit_one', bit_zero', wBin_shr32, wBin_and1, wBin_rem2, wBin_andNot32, wBin_or32, wBin_and32, wBin_shl32, u32_eq_zero, u32_ne_zero, List.length_cons, List.length_nil, Nat.le_refl, Nat.reduceAdd, Nat.reduceMul, Nat.reduceLeDiff, Int.toNat_zero, Int.toNat_one]

theorem index_of_count {l : List UInt8} (h : 0 < l.count 32) : ∃ o : Nat, Lib.indexByte l 32 = (o : Int) ∧ l[o]? = some 32 ∧ ∀ (k : Nat), k < o → l[k]? ≠ some 32 := by
  have hge := Lib.indexByte_ge l 32
  rcases Int.lt_or_le (Lib.indexByte l 32) 0 with h1 | h1
  · have h2 : Lib.indexByte l 32 = -1 := by omega
    have hn := Lib.indexByte_none h2
    obtain ⟨j, hj⟩ := List.mem_iff_getElem?.1 (List.count_pos_iff.1 h)
    exact absurd hj (hn j)
  · obtain ⟨o, ho⟩ := Int.eq_ofNat_of_zero_le h1
    exact ⟨o, ho, Lib.indexByte_some ho⟩
theorem set_part (zl : List (List UInt8)) (n : Nat) (p : List UInt8) (h : zl.length < n) : (zl.map mkB ++ List.replicate (n - zl.length) (⟨#[]⟩ : ByteArray)).set zl.length (mkB p) = (zl ++ [p]).map mkB ++ List.replicate (n - (zl.length + 1)) ⟨#[]⟩ := by
  rw [show n - zl.length = (n - (zl.length + 1)) + 1 by omega, List.replicate_succ, List.set_append_right _ _ (by simp)]
  simp

set_option maxHeartbeats 2000000 in
theorem gen35 (s : ByteArray) (H : Heap) (nx : Nat) (hs : s.size ≤ 100000) : Ans Tryd.prog 35 [.string s, .string ⟨#[32]⟩, .int .i64 0, .int .i64 (-1)] H nx fun r H' nx' => .slice (some ⟨nx, 0, none⟩) (splitS s).length (splitS s).length = r ∧ getH H' nx = some (.cells (strs (splitS s)) 0) ∧ nx + 1 = nx' ∧ Ext H nx H' nx' := by
  refine spec35 ?_
  unfold F35
  have hlen := data_size s
  have d1 : decide ((-1 : Int) = 0) = false := by decide
  have d2 : decide ((⟨#[32]⟩ : ByteArray) = ⟨#[]⟩) = false := by decide
  have d3 : (-1 : Int) < 0 := by decide
  have hcnt : s.data.toList.count 32 ≤ s.size := by rw [← hlen]; exact List.count_le_length
  rw [splitS_length]
  generalize hc : s.data.toList.count 32 = cnt at hcnt
  simp (disch := first | omega | assumption | exact shr_lt (by assumption) | exact ndiff32 (by assumption) | exact below_lt (by omega) | fail) only [List.getD_cons_zero, List.getD_cons_succ, wBin_lss, wBin_leq, wBin_gtr, wBin_geq, wBin_eql, wBin_neq, wIf_bool, wGuard_true, wGuard_false, wPick_true, wPick_false, wUn_not, wFld_eq, wExt_eq, wPart_one, wPart_agg, wLen_slice, wLen_string, wNew_eq, wNm_eq, dBox_agg, dBox_int, dBox_slice, dBox_string, dBox_bool, dBox_map, dBox_ptr, oneCells, wLd_none, wLd_2, wLd_3, wLd_32, ldP_cells, ldP_rom, cellP_one, getH_same, getH_ne, forceV_eq, forceN_eq, hsK_eq, Option.elim_some, List.getElem?_cons_zero, List.getElem?_cons_succ, Yld.val, decide_true, decide_false, if_true, if_false, Bool.false_eq_true, Nat.zero_add, Nat.add_zero, and_true, true_and, or_false, Bool.not_true, Bool.not_false, and_self, wBin_add64, wBin_sub64, wIdx_slice, wIdx_array, wNilc_eq, Int.toNat_natCast, Nat.mul_one, Nat.zero_mul, wSt_agg, wSt_int, wSt_bool, wSt_string, wSt_slice, wSt_ptr, wSt_map, wSt_func, stP_cells, bit_one, bit_zero, bit_one', bit_zero', wBin_shr32, wBin_and1, wBin_rem2, wBin_andNot32, wBin_or32, wBin_and32, wBin_shl32, u32_eq_zero, u32_ne_zero, List.length_cons, List.length_nil, Nat.le_refl, Nat.reduceAdd, Nat.reduceMul, Nat.reduceLeDiff, Int.toNat_zero, Int.toNat_one, d1, wBin_streq, d2]
  refine wJoin_rule (fun L H' nx' => L = [.int .i64 ((cnt + 1 : Nat) : Int)] ∧ H = H' ∧ nx = nx') ?_ ?_
  · intro j hj
    simp (disch := first | omega | assumption | exact shr_lt (by assumption) | exact ndiff32 (by assumption) | exact below_lt (by omega) | fail) only [List.getD_cons_zero, List.getD_cons_succ, wBin_lss, wBin_leq, wBin_gtr, wBin_geq, wBin_eql, wBin_neq, wIf_bool, wGuard_true, wGuard_false, wPick_true, wPick_false, wUn_not, wFld_eq, wExt_eq, wPart_one, wPart_agg, wLen_slice, wLen_string, wNew_eq, wNm_eq, dBox_agg, dBox_int, dBox_slice, dBox_string, dBox_bool, dBox_map, dBox_ptr, oneCells, wLd_none, wLd_2, wLd_3, wLd_32, ldP_cells, ldP_rom, cellP_one, getH_same, getH_ne, forceV_eq, forceN_eq, hsK_eq, Option.elim_some, List.getElem?_cons_zero, List.getElem?_cons_succ, Yld.val, decide_true, decide_false, if_true, if_false, Bool.false_eq_true, Nat.zero_add, Nat.add_zero, and_true, true_and, or_false, Bool.not_true, Bool.not_false, and_self, wBin_add64, wBin_sub64, wIdx_slice, wIdx_array, wNilc_eq, Int.toNat_natCast, Nat.mul_one, Nat.zero_mul, wSt_agg, wSt_int, wSt_bool, wSt_string, wSt_slice, wSt_ptr, wSt_map, wSt_func, stP_cells, bit_one, bit_zero, bit_one', bit_zero', wBin_shr32, wBin_and1, wBin_rem2, wBin_andNot32, wBin_or32, wBin_and32, wBin_shl32, u32_eq_zero, u32_ne_zero, List.length_cons, List.length_nil, Nat.le_refl, Nat.reduceAdd, Nat.reduceMul, Nat.reduceLeDiff, Int.toNat_zero, Int.toNat_one, d3]
    refine wCall_rule (count46 s 32 H nx) ?_
    rintro _ _ _ ⟨rfl, rfl, rfl⟩
    have e : Lib.countByte s.data.toList 32 = cnt := hc
    rw [e]
    rw [wBin_add64 _ _ _ (by omega) (by omega)]
    exact hj _ _ _ ⟨by simp, rfl, rfl⟩
  rintro _ _ _ ⟨rfl, rfl, rfl⟩
  have hmin : ((cnt + 1 : Nat) : Int) ≤ (s.size : Int) + 1 := by omega
  have e1 : ((cnt + 1 : Nat) : Int) - 1 = (cnt : Int) := by omega
  have hn : cnt + 1 ≤ 1000000 := by omega
  simp (disch := first | omega | assumption | exact shr_lt (by assumption) | exact ndiff32 (by assumption) | exact below_lt (by omega) | fail) only [List.getD_cons_zero, List.getD_cons_succ, wBin_lss, wBin_leq, wBin_gtr, wBin_geq, wBin_eql, wBin_neq, wIf_bool, wGuard_true, wGuard_false, wPick_true, wPick_false, wUn_not, wFld_eq, wExt_eq, wPart_one, wPart_agg, wLen_slice, wLen_string, wNew_eq, wNm_eq, dBox_agg, dBox_int, dBox_slice, dBox_string, dBox_bool, dBox_map, dBox_ptr, oneCells, wLd_none, wLd_2, wLd_3, wLd_32, ldP_cells, ldP_rom, cellP_one, getH_same, getH_ne, forceV_eq, forceN_eq, hsK_eq, Option.elim_some, List.getElem?_cons_zero, List.getElem?_cons_succ, Yld.val, decide_true, decide_false, if_true, if_false, Bool.false_eq_true, Nat.zero_add, Nat.add_zero, and_true, true_and, or_false, Bool.not_true, Bool.not_false, and_self, wBin_add64, wBin_sub64, wIdx_slice, wIdx_array, wNilc_eq, Int.toNat_natCast, Nat.mul_one, Nat.zero_mul, wSt_agg, wSt_int, wSt_bool, wSt_string, wSt_slice, wSt_ptr, wSt_map, wSt_func, stP_cells, bit_one, bit_zero, bit_one', bit_zero', wBin_shr32, wBin_and1, wBin_rem2, wBin_andNot32, wBin_or32, wBin_and32, wBin_shl32, u32_eq_zero, u32_ne_zero, List.length_cons, List.length_nil, Nat.le_refl, Nat.reduceAdd, Nat.reduceMul, Nat.reduceLeDiff, Int.toNat_zero, Int.toNat_one, wVf_min hmin, dMsl_strs hn, e1]
  refine wJoin_rule (fun L H' nx' => ∃ (r : List UInt8) (zl : List (List UInt8)), L = [.string (mkB r), .int .i64 (cnt : Int)] ∧ zl.length = cnt ∧ splitL s.data.toList = zl ++ splitL r ∧ r.count 32 = 0 ∧ getH H' nx = some (.cells (strs (zl.map mkB ++ List.replicate (cnt + 1 - zl.length) ⟨#[]⟩)) 0) ∧ nx + 1 = nx' ∧ Ext H nx H' nx') ?_ ?_
  · intro j hj
    refine wLoop_rule (fun m L H' nx' => ∃ (r : List UInt8) (zl : List (List UInt8)), m + zl.length = cnt ∧ L = [.string (mkB r), .int .i64 (zl.length : Int)] ∧ splitL s.data.toList = zl ++ splitL r ∧ zl.length + r.count 32 = cnt ∧ r.length ≤ s.size ∧ getH H' nx = some (.cells (strs (zl.map mkB ++ List.replicate (cnt + 1 - zl.length) ⟨#[]⟩)) 0) ∧ nx + 1 = nx' ∧ Ext H nx H' nx') ?_ (m := cnt) ⟨s.data.toList, [], by simp, by rw [mkB_of]; rfl, by simp, by simp [hc], by omega, by rw [getH_same]; simp, rfl, (Ext.refl H nx).new _ (Nat.le_refl _) (by omega)⟩
    rintro m ih L H1 _ ⟨r, zl, hm, rfl, hsp, hct, hrl, hg, rfl, hE⟩ hih
    simp (disch := first | omega | assumption | exact shr_lt (by assumption) | exact ndiff32 (by assumption) | exact below_lt (by omega) | fail) only [List.getD_cons_zero, List.getD_cons_succ, wBin_lss, wBin_leq, wBin_gtr, wBin_geq, wBin_eql, wBin_neq, wIf_bool, wGuard_true, wGuard_false, wPick_true, wPick_false, wUn_not, wFld_eq, wExt_eq, wPart_one, wPart_agg, wLen_slice, wLen_string, wNew_eq, wNm_eq, dBox_agg, dBox_int, dBox_slice, dBox_string, dBox_bool, dBox_map, dBox_ptr, oneCells, wLd_none, wLd_2, wLd_3, wLd_32, ldP_cells, ldP_rom, cellP_one, getH_same, getH_ne, forceV_eq, forceN_eq, hsK_eq, Option.elim_some, List.getElem?_cons_zero, List.getElem?_cons_succ, Yld.val, decide_true, decide_false, if_true, if_false, Bool.false_eq_true, Nat.zero_add, Nat.add_zero, and_true, true_and, or_false, Bool.not_true, Bool.not_false, and_self, wBin_add64, wBin_sub64, wIdx_slice, wIdx_array, wNilc_eq, Int.toNat_natCast, Nat.mul_one, Nat.zero_mul, wSt_agg, wSt_int, wSt_bool, wSt_string, wSt_slice, wSt_ptr, wSt_map, wSt_func, stP_cells, bit_one, bit_zero, bit_one', bit_zero', wBin_shr32, wBin_and1, wBin_rem2, wBin_andNot32, wBin_or32, wBin_and32, wBin_shl32, u32_eq_zero, u32_ne_zero, List.length_cons, List.length_nil, Nat.le_refl, Nat.reduceAdd, Nat.reduceMul, Nat.reduceLeDiff, Int.toNat_zero, Int.toNat_one]
    by_cases hi : zl.length < cnt
    · have hi' : (zl.length : Int) < (cnt : Int) := by omega
      have hi2 : (zl.length : Int) < ((cnt + 1 : Nat) : Int) := by omega
      obtain ⟨o, ho, hat, hbef⟩ := index_of_count (l := r) (by omega)
      have hol : o < r.length := (List.getElem?_eq_some_iff.1 hat).1
      simp (disch := first | omega | assumption | exact shr_lt (by assumption) | exact ndiff32 (by assumption) | exact below_lt (by omega) | fail) only [List.getD_cons_zero, List.getD_cons_succ, wBin_lss, wBin_leq, wBin_gtr, wBin_geq, wBin_eql, wBin_neq, wIf_bool, wGuard_true, wGuard_false, wPick_true, wPick_false, wUn_not, wFld_eq, wExt_eq, wPart_one, wPart_agg, wLen_slice, wLen_string, wNew_eq, wNm_eq, dBox_agg, dBox_int, dBox_slice, dBox_string, dBox_bool, dBox_map, dBox_ptr, oneCells, wLd_none, wLd_2, wLd_3, wLd_32, ldP_cells, ldP_rom, cellP_one, getH_same, getH_ne, forceV_eq, forceN_eq, hsK_eq, Option.elim_some, List.getElem?_cons_zero, List.getElem?_cons_succ, Yld.val, decide_true, decide_false, if_true, if_false, Bool.false_eq_true, Nat.zero_add, Nat.add_zero, and_true, true_and, or_false, Bool.not_true, Bool.not_false, and_self, wBin_add64, wBin_sub64, wIdx_slice, wIdx_array, wNilc_eq, Int.toNat_natCast, Nat.mul_one, Nat.zero_mul, wSt_agg, wSt_int, wSt_bool, wSt_string, wSt_slice, wSt_ptr, wSt_map, wSt_func, stP_cells, bit_one, bit_zero, bit_one', bit_zero', wBin_shr32, wBin_and1, wBin_rem2, wBin_andNot32, wBin_or32, wBin_and32, wBin_shl32, u32_eq_zero, u32_ne_zero, List.length_cons, List.length_nil, Nat.le_refl, Nat.reduceAdd, Nat.reduceMul, Nat.reduceLeDiff, Int.toNat_zero, Int.toNat_one, hi']
      refine wCall_rule (index47 (mkB r) 32 H1 (nx + 1)) ?_
      rintro _ _ _ ⟨rfl, rfl, rfl⟩
      rw [mkB_data, ho]
      have g1 : ¬ (o : Int) < 0 := by omega
      have e2 : (((⟨#[32]⟩ : ByteArray).size : Nat) : Int) = 1 := rfl
      have e3 : (o : Int) + 1 = ((o + 1 : Nat) : Int) := by omega
      have hsz := mkB_size r
      have t1 := fun k => wVf_take (s := mkB r) (h := o) (by omega) k
      have t2 := fun k => wVf_drop (s := mkB r) (a := o + 1) (by omega) k
      simp (disch := first | omega | assumption | exact shr_lt (by assumption) | exact ndiff32 (by assumption) | exact below_lt (by omega) | fail) only [List.getD_cons_zero, List.getD_cons_succ, wBin_lss, wBin_leq, wBin_gtr, wBin_geq, wBin_eql, wBin_neq, wIf_bool, wGuard_true, wGuard_false, wPick_true, wPick_false, wUn_not, wFld_eq, wExt_eq, wPart_one, wPart_agg, wLen_slice, wLen_string, wNew_eq, wNm_eq, dBox_agg, dBox_int, dBox_slice, dBox_string, dBox_bool, dBox_map, dBox_ptr, oneCells, wLd_none, wLd_2, wLd_3, wLd_32, ldP_cells, ldP_rom, cellP_one, getH_same, getH_ne, forceV_eq, forceN_eq, hsK_eq, Option.elim_some, List.getElem?_cons_zero, List.getElem?_cons_succ, Yld.val, decide_true, decide_false, if_true, if_false, Bool.false_eq_true, Nat.zero_add, Nat.add_zero, and_true, true_and, or_false, Bool.not_true, Bool.not_false, and_self, wBin_add64, wBin_sub64, wIdx_slice, wIdx_array, wNilc_eq, Int.toNat_natCast, Nat.mul_one, Nat.zero_mul, wSt_agg, wSt_int, wSt_bool, wSt_string, wSt_slice, wSt_ptr, wSt_map, wSt_func, stP_cells, bit_one, bit_zero, bit_one', bit_zero', wBin_shr32, wBin_and1, wBin_rem2, wBin_andNot32, wBin_or32, wBin_and32, wBin_shl32, u32_eq_zero, u32_ne_zero, List.length_cons, List.length_nil, Nat.le_refl, Nat.reduceAdd, Nat.reduceMul, Nat.reduceLeDiff, Int.toNat_zero, Int.toNat_one, g1, Int.add_zero, t1, hi2, hg, e2, e3, t2, strs_length, List.length_append, List.length_map, List.length_replicate]
      refine ⟨by omega, ?_⟩
      have h0 : (0 : Nat) + (zl.length : Int).toNat * 1 = zl.length := by omega
      have p1 : (mkB r).extract 0 o = mkB (r.take o) := by rw [extract_mk, mkB_data]; simp
      have p2 : (mkB r).extract (o + 1) (mkB r).size = mkB (r.drop (o + 1)) := by rw [extract_mk, mkB_data, List.take_of_length_le (by rw [List.length_drop, mkB_size]; omega)]
      have hcut := drop_at (f := 0) (Nat.zero_le o) hat
      simp only [List.drop_zero, Nat.sub_zero] at hcut
      have hno : ∀ c ∈ r.take o, c ≠ 32 := fun c hc => by
        obtain ⟨j, hj⟩ := List.mem_iff_getElem?.1 hc
        rw [List.getElem?_take] at hj
        split at hj
        · rename_i hjo
          exact fun e => hbef j hjo (by rw [hj, e])
        · cases hj
      have hsr := (congrArg splitL hcut).trans (splitL_at hno)
      have hcr := congrArg (List.count 32) hcut
      rw [List.count_append, List.count_cons_self, List.count_eq_zero.2 (fun h => hno 32 h rfl)] at hcr
      refine hih (m - 1) _ _ _ (by omega) ⟨r.drop (o + 1), zl ++ [r.take o], by simp; omega, by rw [p2]; simp, by rw [hsp, hsr]; simp, by simp; omega, by rw [List.length_drop]; omega, ?_, rfl, hE.hs (Nat.le_refl _)⟩
      rw [getH_same, p1, putL_strs (by simp; omega), set_part zl (cnt + 1) _ (by omega)]
      simp
    · have hi' : ¬ (zl.length : Int) < (cnt : Int) := by omega
      simp (disch := first | omega | assumption | exact shr_lt (by assumption) | exact ndiff32 (by assumption) | exact below_lt (by omega) | fail) only [List.getD_cons_zero, List.getD_cons_succ, wBin_lss, wBin_leq, wBin_gtr, wBin_geq, wBin_eql, wBin_neq, wIf_bool, wGuard_true, wGuard_false, wPick_true, wPick_false, wUn_not, wFld_eq, wExt_eq, wPart_one, wPart_agg, wLen_slice, wLen_string, wNew_eq, wNm_eq, dBox_agg, dBox_int, dBox_slice, dBox_string, dBox_bool, dBox_map, dBox_ptr, oneCells, wLd_none, wLd_2, wLd_3, wLd_32, ldP_cells, ldP_rom, cellP_one, getH_same, getH_ne, forceV_eq, forceN_eq, hsK_eq, Option.elim_some, List.getElem?_cons_zero, List.getElem?_cons_succ, Yld.val, decide_true, decide_false, if_true, if_false, Bool.false_eq_true, Nat.zero_add, Nat.add_zero, and_true, true_and, or_false, Bool.not_true, Bool.not_false, and_self, wBin_add64, wBin_sub64, wIdx_slice, wIdx_array, wNilc_eq, Int.toNat_natCast, Nat.mul_one, Nat.zero_mul, wSt_agg, wSt_int, wSt_bool, wSt_string, wSt_slice, wSt_ptr, wSt_map, wSt_func, stP_cells, bit_one, bit_zero, bit_one', bit_zero', wBin_shr32, wBin_and1, wBin_rem2, wBin_andNot32, wBin_or32, wBin_and32, wBin_shl32, u32_eq_zero, u32_ne_zero, List.length_cons, List.length_nil, Nat.le_refl, Nat.reduceAdd, Nat.reduceMul, Nat.reduceLeDiff, Int.toNat_zero, Int.toNat_one, hi']
      exact hj _ _ _ ⟨r, zl, by rw [show zl.length = cnt by omega], by omega, hsp, by omega, hg, rfl, hE⟩
  rintro _ H1 _ ⟨r, zl, rfl, hzl, hsp, hct, hg, rfl, hE⟩
  have hi2 : (cnt : Int) < ((cnt + 1 : Nat) : Int) := by omega
  have e3 : (cnt : Int) + 1 = ((cnt + 1 : Nat) : Int) := by omega
  simp (disch := first | omega | assumption | exact shr_lt (by assumption) | exact ndiff32 (by assumption) | exact below_lt (by omega) | fail) only [List.getD_cons_zero, List.getD_cons_succ, wBin_lss, wBin_leq, wBin_gtr, wBin_geq, wBin_eql, wBin_neq, wIf_bool, wGuard_true, wGuard_false, wPick_true, wPick_false, wUn_not, wFld_eq, wExt_eq, wPart_one, wPart_agg, wLen_slice, wLen_string, wNew_eq, wNm_eq, dBox_agg, dBox_int, dBox_slice, dBox_string, dBox_bool, dBox_map, dBox_ptr, oneCells, wLd_none, wLd_2, wLd_3, wLd_32, ldP_cells, ldP_rom, cellP_one, getH_same, getH_ne, forceV_eq, forceN_eq, hsK_eq, Option.elim_some, List.getElem?_cons_zero, List.getElem?_cons_succ, Yld.val, decide_true, decide_false, if_true, if_false, Bool.false_eq_true, Nat.zero_add, Nat.add_zero, and_true, true_and, or_false, Bool.not_true, Bool.not_false, and_self, wBin_add64, wBin_sub64, wIdx_slice, wIdx_array, wNilc_eq, Int.toNat_natCast, Nat.mul_one, Nat.zero_mul, wSt_agg, wSt_int, wSt_bool, wSt_string, wSt_slice, wSt_ptr, wSt_map, wSt_func, stP_cells, bit_one, bit_zero, bit_one', bit_zero', wBin_shr32, wBin_and1, wBin_rem2, wBin_andNot32, wBin_or32, wBin_and32, wBin_shl32, u32_eq_zero, u32_ne_zero, List.length_cons, List.length_nil, Nat.le_refl, Nat.reduceAdd, Nat.reduceMul, Nat.reduceLeDiff, Int.toNat_zero, Int.toNat_one, hi2, hg, e3, strs_length, List.length_append, List.length_map, List.length_replicate]
  refine ⟨by omega, ?_⟩
  rw [wSl_hi (getH_same _ _ _) (Nat.le_refl _) (.inl rfl)]
  refine ⟨rfl, ?_, hE.hs (Nat.le_refl _)⟩
  have hno : ∀ c ∈ r, c ≠ 32 := fun c hc e => by
    subst e
    have := List.count_pos_iff.2 hc
    omega
  rw [splitL_last hno] at hsp
  subst hzl
  rw [putL_strs (by simp), set_part zl (zl.length + 1) r (by omega), splitS, hsp]
  simp
theorem split21 (s : ByteArray) (H : Heap) (nx : Nat) (hs : s.size ≤ 100000) : Ans Tryd.prog 21 [.string s, .string ⟨#[32]⟩] H nx fun r H' nx' => .slice (some ⟨nx, 0, none⟩) (splitS s).length (splitS s).length = r ∧ getH H' nx = some (.cells (strs (splitS s)) 0) ∧ nx + 1 = nx' ∧ Ext H nx H' nx' := by
  refine spec21 ?_
  unfold F21
  refine wCall_rule (gen35 s H nx hs) ?_
  rintro _ H1 _ ⟨rfl, hg, rfl, hE⟩
  simp (disch := first | omega | assumption | exact shr_lt (by assumption) | exact ndiff32 (by assumption) | exact below_lt (by omega) | fail) only [List.getD_cons_zero, List.getD_cons_succ, wBin_lss, wBin_leq, wBin_gtr, wBin_geq, wBin_eql, wBin_neq, wIf_bool, wGuard_true, wGuard_false, wPick_true, wPick_false, wUn_not, wFld_eq, wExt_eq, wPart_one, wPart_agg, wLen_slice, wLen_string, wNew_eq, wNm_eq, dBox_agg, dBox_int, dBox_slice, dBox_string, dBox_bool, dBox_map, dBox_ptr, oneCells, wLd_none, wLd_2, wLd_3, wLd_32, ldP_cells, ldP_rom, cellP_one, getH_same, getH_ne, forceV_eq, forceN_eq, hsK_eq, Option.elim_some, List.getElem?_cons_zero, List.getElem?_cons_succ, Yld.val, decide_true, decide_false, if_true, if_false, Bool.false_eq_true, Nat.zero_add, Nat.add_zero, and_true, true_and, or_false, Bool.not_true, Bool.not_false, and_self, wBin_add64, wBin_sub64, wIdx_slice, wIdx_array, wNilc_eq, Int.toNat_natCast, Nat.mul_one, Nat.zero_mul, wSt_agg, wSt_int, wSt_bool, wSt_string, wSt_slice, wSt_ptr, wSt_map, wSt_func, stP_cells, bit_one, bit_zero, bit_one', bit_zero', wBin_shr32, wBin_and1, wBin_rem2, wBin_andNot32, wBin_or32, wBin_and32, wBin_shl32, u32_eq_zero, u32_ne_zero, List.length_cons, List.length_nil, Nat.le_refl, Nat.reduceAdd, Nat.reduceMul, Nat.reduceLeDiff, Int.toNat_zero, Int.toNat_one]
  exact ⟨hg, hE⟩
end Go.Proofs.YtjpgddpobnjmkaaDoor
