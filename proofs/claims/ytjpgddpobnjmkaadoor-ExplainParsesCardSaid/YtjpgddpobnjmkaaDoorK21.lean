/-
  Contracts: the verdict that a text says (the reference's Parse and the program's ParseVerdict).
-/
import Derived.Test.YtjpgddpobnjmkaaDoorK20
import Derived.MapKept
set_option linter.unusedSimpArgs false
set_option linter.unusedVariables false
set_option linter.unusedSectionVars false
namespace Go.Proofs.YtjpgddpobnjmkaaDoor
open Go.Clo

def emp : ByteArray := ⟨#[]⟩
/-- The indices of these strings. -/
def idxs (vs : List ByteArray) : List ByteArray → Option (List Int)
  | [] => some []
  | s :: r => if idxOf vs s < 0 then none else (idxs vs r).map (idxOf vs s :: ·)
theorem idxs_snoc {vs : List ByteArray} {x : ByteArray} (hx : ¬ idxOf vs x < 0) : ∀ {l : List ByteArray} {zs : List Int}, idxs vs l = some zs → idxs vs (l ++ [x]) = some (zs ++ [idxOf vs x])
  | [], zs, h => by
    cases h
    simp [idxs, hx]
  | i :: r, zs, h => by
    unfold idxs at h
    by_cases hp : idxOf vs i < 0
    · rw [if_pos hp] at h; cases h
    · rw [if_neg hp] at h
      obtain ⟨ys, h1, rfl⟩ := Option.map_eq_some_iff.1 h
      rw [List.cons_append, idxs, if_neg hp, idxs_snoc hx h1]
      rfl
theorem idxs_bad {vs : List ByteArray} {x : ByteArray} (hx : idxOf vs x < 0) : ∀ {l : List ByteArray}, x ∈ l → idxs vs l = none
  | i :: r, h => by
    rcases List.mem_cons.1 h with rfl | h
    · rw [idxs, if_pos hx]
    · rw [idxs]
      split
      · rfl
      · rw [idxs_bad hx h]; rfl
theorem idxs_length {vs : List ByteArray} : ∀ {l : List ByteArray} {zs : List Int}, idxs vs l = some zs → zs.length = l.length
  | [], zs, h => by cases h; rfl
  | i :: r, zs, h => by
    unfold idxs at h
    by_cases hp : idxOf vs i < 0
    · rw [if_pos hp] at h; cases h
    · rw [if_neg hp] at h
      obtain ⟨ys, h1, rfl⟩ := Option.map_eq_some_iff.1 h
      simp [idxs_length h1]
theorem idxOf_ge (l : List ByteArray) (s : ByteArray) : -1 ≤ idxOf l s := by
  unfold idxOf
  split <;> omega
theorem idxOf_neg {l : List ByteArray} {s : ByteArray} : idxOf l s < 0 ↔ s ∉ l := by
  by_cases h : s ∈ l
  · rw [idxOf_yes h]; simp [h]
  · rw [idxOf_not h]; simp [h]

open Classical in
/-- The verdict that a text says: its kind, its list, the error code. -/
noncomputable def parseOf (vs : List ByteArray) (s : ByteArray) : Int × List Int × Int :=
  if codeOf vs ≠ 0 then (0, [], codeOf vs) else if idxOf wordL ((splitS s).headD emp) < 0 ∨ emp ∈ splitS s then (0, [], 15) else match idxs vs (splitS s).tail with
  | none => (0, [], 7)
  | some l => (idxOf wordL ((splitS s).headD emp), l, 0)
theorem parseOf_code {vs : List ByteArray} (h : codeOf vs ≠ 0) (s : ByteArray) : parseOf vs s = (0, [], codeOf vs) := if_pos h
theorem parseOf_form {vs : List ByteArray} {s : ByteArray} (h : codeOf vs = 0) (hk : idxOf wordL ((splitS s).headD emp) < 0 ∨ emp ∈ splitS s) : parseOf vs s = (0, [], 15) := by
  unfold parseOf; rw [if_neg (by simp [h]), if_pos hk]
theorem parseOf_none {vs : List ByteArray} {s : ByteArray} (h : codeOf vs = 0) (hk : ¬ (idxOf wordL ((splitS s).headD emp) < 0 ∨ emp ∈ splitS s)) (hl : idxs vs (splitS s).tail = none) : parseOf vs s = (0, [], 7) := by
  unfold parseOf; rw [if_neg (by simp [h]), if_neg hk, hl]
theorem parseOf_some {vs : List ByteArray} {s : ByteArray} (h : codeOf vs = 0) (hk : ¬ (idxOf wordL ((splitS s).headD emp) < 0 ∨ emp ∈ splitS s)) {l : List Int} (hl : idxs vs (splitS s).tail = some l) : parseOf vs s = (idxOf wordL ((splitS s).headD emp), l, 0) := by
  unfold parseOf; rw [if_neg (by simp [h]), if_neg hk, hl]
theorem split_open (s : ByteArray) : ∃ h t, splitS s = h :: t := by
  cases hh : splitS s with
  | nil => have := splitS_pos s; rw [hh] at this; simp at this
  | cons h t => exact ⟨h, t, rfl⟩
theorem splitS_le (s : ByteArray) : (splitS s).length ≤ s.size + 1 := by
  rw [splitS_length, ← data_size]
  have := List.count_le_length (a := (32 : UInt8)) (l := s.data.toList)
  omega

theorem AccL.low {lo lo' : Nat} {H : Heap} {nx : Nat} {v : Value} {c : List Value} (h : AccL lo H nx v c) (hl : lo' ≤ lo) : AccL lo' H nx v c := by
  rcases h with h | ⟨h0, b, h1, h2⟩
  · left
    refine ⟨h.1, h.2.imp id ?_⟩
    rintro ⟨b, h1, h2⟩
    exact ⟨b, Nat.le_trans hl h1, h2⟩
  · exact .inr ⟨h0, b, Nat.le_trans hl h1, h2⟩
theorem AccL.put {lo i : Nat} {H : Heap} {nx : Nat} {v : Value} {c : List Value} (h : AccL lo H nx v c) (hi : i < lo) (b : Option Blk) : AccL lo (Go.Clo.hs H i b) nx v c := by
  rcases h with h | ⟨h0, b, h1, h2, h3, h4⟩
  · left
    refine ⟨h.1, h.2.imp id ?_⟩
    rintro ⟨b, h1, h2, h3, h4⟩
    exact ⟨b, h1, h2, h3, by rw [getH_ne _ (by omega)]; exact h4⟩
  · exact .inr ⟨h0, b, h1, h2, h3, by rw [getH_ne _ (by omega)]; exact h4⟩
theorem AccL.zero (lo : Nat) (H : Heap) (nx : Nat) : AccL lo H nx (.slice none 0 0) (i64s []) := .inl (Acc.nil _ _ _ _)
set_option maxHeartbeats 2000000 in
theorem parse12 (A : Option Addr) (vs : List ByteArray) (s : ByteArray) (cap : Nat) (H : Heap) (nx : Nat) (hS : Sl H nx A (strs vs)) (hv : Short vs) (hlv : vs.length ≤ 1000) (hs : s.size ≤ 100000) :
    Ans Tryd.prog 12 [.slice A vs.length cap, .string s] H nx fun r H' nx' => (∃ v, r = .tuple ⟨[.int .i64 (parseOf vs s).1, v, .int .i64 (parseOf vs s).2.2]⟩ ∧ AccL nx H' nx' v (i64s (parseOf vs s).2.1)) ∧ Ext H nx H' nx' := by
  refine spec12 ?_
  unfold F12
  refine wCall_rule (names18 A vs cap H nx hS hv (by omega)) ?_
  rintro _ _ n1 ⟨rfl, rfl, hn1⟩
  have hX : Ext H nx H n1 := Ext.self hn1
  by_cases h0 : codeOf vs = 0
  · have d : decide (codeOf vs ≠ 0) = false := by simp [h0]
    simp (disch := first | omega | assumption | exact shr_lt (by assumption) | exact ndiff32 (by assumption) | exact below_lt (by omega) | fail) only [List.getD_cons_zero, List.getD_cons_succ, wBin_lss, wBin_leq, wBin_gtr, wBin_geq, wBin_eql, wBin_neq, wIf_bool, wGuard_true, wGuard_false, wPick_true, wPick_false, wUn_not, wFld_eq, wExt_eq, wPart_one, wPart_agg, wLen_slice, wLen_string, wNew_eq, wNm_eq, dBox_agg, dBox_int, dBox_slice, dBox_string, dBox_bool, dBox_map, dBox_ptr, oneCells, wLd_none, wLd_2, wLd_3, wLd_32, ldP_cells, ldP_rom, cellP_one, getH_same, getH_ne, forceV_eq, forceN_eq, hsK_eq, Option.elim_some, List.getElem?_cons_zero, List.getElem?_cons_succ, Yld.val, decide_true, decide_false, if_true, if_false, Bool.false_eq_true, Nat.zero_add, Nat.add_zero, and_true, true_and, or_false, Bool.not_true, Bool.not_false, and_self, wBin_add64, wBin_sub64, wIdx_slice, wIdx_array, wNilc_eq, Int.toNat_natCast, Nat.mul_one, Nat.zero_mul, wSt_agg, wSt_int, wSt_bool, wSt_string, wSt_slice, wSt_ptr, wSt_map, wSt_func, stP_cells, bit_one, bit_zero, bit_one', bit_zero', wBin_shr32, wBin_and1, wBin_rem2, wBin_andNot32, wBin_or32, wBin_and32, wBin_shl32, u32_eq_zero, u32_ne_zero, List.length_cons, List.length_nil, Nat.le_refl, Nat.reduceAdd, Nat.reduceMul, Nat.reduceLeDiff, Int.toNat_zero, Int.toNat_one, d]
    refine wCall_rule (split25 s H n1 hs) ?_
    rintro v H2 n2 ⟨hacc, hE2⟩
    obtain ⟨B, rfl, hB, hB0⟩ := hacc.sl
    have hE02 := hX.trans hE2
    have hpos := splitS_pos s
    have hlen := strs_length (splitS s)
    have hple := splitS_le s
    obtain ⟨p0, tl, hp⟩ := split_open s
    simp (disch := first | omega | assumption | exact shr_lt (by assumption) | exact ndiff32 (by assumption) | exact below_lt (by omega) | fail) only [List.getD_cons_zero, List.getD_cons_succ, wBin_lss, wBin_leq, wBin_gtr, wBin_geq, wBin_eql, wBin_neq, wIf_bool, wGuard_true, wGuard_false, wPick_true, wPick_false, wUn_not, wFld_eq, wExt_eq, wPart_one, wPart_agg, wLen_slice, wLen_string, wNew_eq, wNm_eq, dBox_agg, dBox_int, dBox_slice, dBox_string, dBox_bool, dBox_map, dBox_ptr, oneCells, wLd_none, wLd_2, wLd_3, wLd_32, ldP_cells, ldP_rom, cellP_one, getH_same, getH_ne, forceV_eq, forceN_eq, hsK_eq, Option.elim_some, List.getElem?_cons_zero, List.getElem?_cons_succ, Yld.val, decide_true, decide_false, if_true, if_false, Bool.false_eq_true, Nat.zero_add, Nat.add_zero, and_true, true_and, or_false, Bool.not_true, Bool.not_false, and_self, wBin_add64, wBin_sub64, wIdx_slice, wIdx_array, wNilc_eq, Int.toNat_natCast, Nat.mul_one, Nat.zero_mul, wSt_agg, wSt_int, wSt_bool, wSt_string, wSt_slice, wSt_ptr, wSt_map, wSt_func, stP_cells, bit_one, bit_zero, bit_one', bit_zero', wBin_shr32, wBin_and1, wBin_rem2, wBin_andNot32, wBin_or32, wBin_and32, wBin_shl32, u32_eq_zero, u32_ne_zero, List.length_cons, List.length_nil, Nat.le_refl, Nat.reduceAdd, Nat.reduceMul, Nat.reduceLeDiff, Int.toNat_zero, Int.toNat_one]
    refine wCall_rule (words20 H2 (n2 + 6)) ?_
    rintro _ _ _ ⟨rfl, rfl, rfl⟩
    have hX6 : Ext H2 n2 (Go.Clo.hs H2 (n2 + 6) (some (.cells (strs wordL) 0))) (n2 + 7) := (Ext.refl H2 n2).new _ (by omega) (by omega)
    have hw : Sl (Go.Clo.hs H2 (n2 + 6) (some (.cells (strs wordL) 0))) (n2 + 7) (some ⟨n2 + 6, 0, none⟩) (strs wordL) := fun i u hu => ⟨n2 + 6, 0, strs wordL, rfl, Nat.lt_succ_self _, by simp [rowOf, getH_same, Blk.row], by simpa using hu⟩
    generalize Go.Clo.hs H2 (n2 + 6) (some (.cells (strs wordL) 0)) = H4 at hX6 hw ⊢
    obtain ⟨b, o, row, rfl, hb, hrow, hget⟩ := hB.open (i := 0) (by omega)
    have hrow4 : rowOf H4 b = some row := by rw [hX6.row hb]; exact hrow
    have hp0 : (splitS s)[0]? = some p0 := by rw [hp]; rfl
    have hg0 : row[o]? = some (.string p0) := by simpa using hget _ _ (strs_get hp0)
    have hl0 : ((0 : Nat) : Int) < ((strs (splitS s)).length : Int) := by omega
    simp (disch := first | omega | assumption | exact shr_lt (by assumption) | exact ndiff32 (by assumption) | exact below_lt (by omega) | fail) only [List.getD_cons_zero, List.getD_cons_succ, wBin_lss, wBin_leq, wBin_gtr, wBin_geq, wBin_eql, wBin_neq, wIf_bool, wGuard_true, wGuard_false, wPick_true, wPick_false, wUn_not, wFld_eq, wExt_eq, wPart_one, wPart_agg, wLen_slice, wLen_string, wNew_eq, wNm_eq, dBox_agg, dBox_int, dBox_slice, dBox_string, dBox_bool, dBox_map, dBox_ptr, oneCells, wLd_none, wLd_2, wLd_3, wLd_32, ldP_cells, ldP_rom, cellP_one, getH_same, getH_ne, forceV_eq, forceN_eq, hsK_eq, Option.elim_some, List.getElem?_cons_zero, List.getElem?_cons_succ, Yld.val, decide_true, decide_false, if_true, if_false, Bool.false_eq_true, Nat.zero_add, Nat.add_zero, and_true, true_and, or_false, Bool.not_true, Bool.not_false, and_self, wBin_add64, wBin_sub64, wIdx_slice, wIdx_array, wNilc_eq, Int.toNat_natCast, Nat.mul_one, Nat.zero_mul, wSt_agg, wSt_int, wSt_bool, wSt_string, wSt_slice, wSt_ptr, wSt_map, wSt_func, stP_cells, bit_one, bit_zero, bit_one', bit_zero', wBin_shr32, wBin_and1, wBin_rem2, wBin_andNot32, wBin_or32, wBin_and32, wBin_shl32, u32_eq_zero, u32_ne_zero, List.length_cons, List.length_nil, Nat.le_refl, Nat.reduceAdd, Nat.reduceMul, Nat.reduceLeDiff, Int.toNat_zero, Int.toNat_one, hl0, ldP_row hrow4, hg0]
    refine wCall_rule (index26 _ wordL p0 4 H4 (n2 + 7) hw (by decide)) ?_
    rintro _ _ _ ⟨rfl, rfl, rfl⟩
    simp (disch := first | omega | assumption | exact shr_lt (by assumption) | exact ndiff32 (by assumption) | exact below_lt (by omega) | fail) only [List.getD_cons_zero, List.getD_cons_succ, wBin_lss, wBin_leq, wBin_gtr, wBin_geq, wBin_eql, wBin_neq, wIf_bool, wGuard_true, wGuard_false, wPick_true, wPick_false, wUn_not, wFld_eq, wExt_eq, wPart_one, wPart_agg, wLen_slice, wLen_string, wNew_eq, wNm_eq, dBox_agg, dBox_int, dBox_slice, dBox_string, dBox_bool, dBox_map, dBox_ptr, oneCells, wLd_none, wLd_2, wLd_3, wLd_32, ldP_cells, ldP_rom, cellP_one, getH_same, getH_ne, forceV_eq, forceN_eq, hsK_eq, Option.elim_some, List.getElem?_cons_zero, List.getElem?_cons_succ, Yld.val, decide_true, decide_false, if_true, if_false, Bool.false_eq_true, Nat.zero_add, Nat.add_zero, and_true, true_and, or_false, Bool.not_true, Bool.not_false, and_self, wBin_add64, wBin_sub64, wIdx_slice, wIdx_array, wNilc_eq, Int.toNat_natCast, Nat.mul_one, Nat.zero_mul, wSt_agg, wSt_int, wSt_bool, wSt_string, wSt_slice, wSt_ptr, wSt_map, wSt_func, stP_cells, bit_one, bit_zero, bit_one', bit_zero', wBin_shr32, wBin_and1, wBin_rem2, wBin_andNot32, wBin_or32, wBin_and32, wBin_shl32, u32_eq_zero, u32_ne_zero, List.length_cons, List.length_nil, Nat.le_refl, Nat.reduceAdd, Nat.reduceMul, Nat.reduceLeDiff, Int.toNat_zero, Int.toNat_one, ldP_row hrow4, ldP_row hrow, hg0]
    have hE04 : Ext H nx H4 (n2 + 7) := hE02.trans hX6
    have hk0 : (splitS s).headD emp = p0 := by rw [hp]; rfl
    by_cases hk : idxOf wordL p0 < 0
    · simp (disch := first | omega | assumption | exact shr_lt (by assumption) | exact ndiff32 (by assumption) | exact below_lt (by omega) | fail) only [List.getD_cons_zero, List.getD_cons_succ, wBin_lss, wBin_leq, wBin_gtr, wBin_geq, wBin_eql, wBin_neq, wIf_bool, wGuard_true, wGuard_false, wPick_true, wPick_false, wUn_not, wFld_eq, wExt_eq, wPart_one, wPart_agg, wLen_slice, wLen_string, wNew_eq, wNm_eq, dBox_agg, dBox_int, dBox_slice, dBox_string, dBox_bool, dBox_map, dBox_ptr, oneCells, wLd_none, wLd_2, wLd_3, wLd_32, ldP_cells, ldP_rom, cellP_one, getH_same, getH_ne, forceV_eq, forceN_eq, hsK_eq, Option.elim_some, List.getElem?_cons_zero, List.getElem?_cons_succ, Yld.val, decide_true, decide_false, if_true, if_false, Bool.false_eq_true, Nat.zero_add, Nat.add_zero, and_true, true_and, or_false, Bool.not_true, Bool.not_false, and_self, wBin_add64, wBin_sub64, wIdx_slice, wIdx_array, wNilc_eq, Int.toNat_natCast, Nat.mul_one, Nat.zero_mul, wSt_agg, wSt_int, wSt_bool, wSt_string, wSt_slice, wSt_ptr, wSt_map, wSt_func, stP_cells, bit_one, bit_zero, bit_one', bit_zero', wBin_shr32, wBin_and1, wBin_rem2, wBin_andNot32, wBin_or32, wBin_and32, wBin_shl32, u32_eq_zero, u32_ne_zero, List.length_cons, List.length_nil, Nat.le_refl, Nat.reduceAdd, Nat.reduceMul, Nat.reduceLeDiff, Int.toNat_zero, Int.toNat_one, hk]
      rw [parseOf_form h0 (.inl (by rw [hk0]; exact hk))]
      exact ⟨⟨_, rfl, AccL.zero _ _ _⟩, hE04⟩
    · simp (disch := first | omega | assumption | exact shr_lt (by assumption) | exact ndiff32 (by assumption) | exact below_lt (by omega) | fail) only [List.getD_cons_zero, List.getD_cons_succ, wBin_lss, wBin_leq, wBin_gtr, wBin_geq, wBin_eql, wBin_neq, wIf_bool, wGuard_true, wGuard_false, wPick_true, wPick_false, wUn_not, wFld_eq, wExt_eq, wPart_one, wPart_agg, wLen_slice, wLen_string, wNew_eq, wNm_eq, dBox_agg, dBox_int, dBox_slice, dBox_string, dBox_bool, dBox_map, dBox_ptr, oneCells, wLd_none, wLd_2, wLd_3, wLd_32, ldP_cells, ldP_rom, cellP_one, getH_same, getH_ne, forceV_eq, forceN_eq, hsK_eq, Option.elim_some, List.getElem?_cons_zero, List.getElem?_cons_succ, Yld.val, decide_true, decide_false, if_true, if_false, Bool.false_eq_true, Nat.zero_add, Nat.add_zero, and_true, true_and, or_false, Bool.not_true, Bool.not_false, and_self, wBin_add64, wBin_sub64, wIdx_slice, wIdx_array, wNilc_eq, Int.toNat_natCast, Nat.mul_one, Nat.zero_mul, wSt_agg, wSt_int, wSt_bool, wSt_string, wSt_slice, wSt_ptr, wSt_map, wSt_func, stP_cells, bit_one, bit_zero, bit_one', bit_zero', wBin_shr32, wBin_and1, wBin_rem2, wBin_andNot32, wBin_or32, wBin_and32, wBin_shl32, u32_eq_zero, u32_ne_zero, List.length_cons, List.length_nil, Nat.le_refl, Nat.reduceAdd, Nat.reduceMul, Nat.reduceLeDiff, Int.toNat_zero, Int.toNat_one, hk]
      refine wLoop_rule (fun m L H' nx' => ∃ i : Nat, m + i = (splitS s).length ∧ L = [.int .i64 (i : Int)] ∧ (∀ (j : Nat) (t : ByteArray), j < i → (splitS s)[j]? = some t → t ≠ emp) ∧ H4 = H' ∧ n2 + 7 = nx') ?_ (m := (splitS s).length) ⟨0, by omega, rfl, fun j t hj => by omega, rfl, rfl⟩
      rintro m ih L _ _ ⟨i, hm, rfl, hst, rfl, rfl⟩ hih
      simp (disch := first | omega | assumption | exact shr_lt (by assumption) | exact ndiff32 (by assumption) | exact below_lt (by omega) | fail) only [List.getD_cons_zero, List.getD_cons_succ, wBin_lss, wBin_leq, wBin_gtr, wBin_geq, wBin_eql, wBin_neq, wIf_bool, wGuard_true, wGuard_false, wPick_true, wPick_false, wUn_not, wFld_eq, wExt_eq, wPart_one, wPart_agg, wLen_slice, wLen_string, wNew_eq, wNm_eq, dBox_agg, dBox_int, dBox_slice, dBox_string, dBox_bool, dBox_map, dBox_ptr, oneCells, wLd_none, wLd_2, wLd_3, wLd_32, ldP_cells, ldP_rom, cellP_one, getH_same, getH_ne, forceV_eq, forceN_eq, hsK_eq, Option.elim_some, List.getElem?_cons_zero, List.getElem?_cons_succ, Yld.val, decide_true, decide_false, if_true, if_false, Bool.false_eq_true, Nat.zero_add, Nat.add_zero, and_true, true_and, or_false, Bool.not_true, Bool.not_false, and_self, wBin_add64, wBin_sub64, wIdx_slice, wIdx_array, wNilc_eq, Int.toNat_natCast, Nat.mul_one, Nat.zero_mul, wSt_agg, wSt_int, wSt_bool, wSt_string, wSt_slice, wSt_ptr, wSt_map, wSt_func, stP_cells, bit_one, bit_zero, bit_one', bit_zero', wBin_shr32, wBin_and1, wBin_rem2, wBin_andNot32, wBin_or32, wBin_and32, wBin_shl32, u32_eq_zero, u32_ne_zero, List.length_cons, List.length_nil, Nat.le_refl, Nat.reduceAdd, Nat.reduceMul, Nat.reduceLeDiff, Int.toNat_zero, Int.toNat_one]
      by_cases hi : i < (splitS s).length
      · have hi' : (i : Int) < ((strs (splitS s)).length : Int) := by omega
        have hv0 : (splitS s)[i]? = some (splitS s)[i] := List.getElem?_eq_getElem hi
        generalize (splitS s)[i] = z at hv0
        by_cases he : z = emp
        · have de : decide (z = ⟨#[]⟩) = true := by simp [he, emp]
          simp (disch := first | omega | assumption | exact shr_lt (by assumption) | exact ndiff32 (by assumption) | exact below_lt (by omega) | fail) only [List.getD_cons_zero, List.getD_cons_succ, wBin_lss, wBin_leq, wBin_gtr, wBin_geq, wBin_eql, wBin_neq, wIf_bool, wGuard_true, wGuard_false, wPick_true, wPick_false, wUn_not, wFld_eq, wExt_eq, wPart_one, wPart_agg, wLen_slice, wLen_string, wNew_eq, wNm_eq, dBox_agg, dBox_int, dBox_slice, dBox_string, dBox_bool, dBox_map, dBox_ptr, oneCells, wLd_none, wLd_2, wLd_3, wLd_32, ldP_cells, ldP_rom, cellP_one, getH_same, getH_ne, forceV_eq, forceN_eq, hsK_eq, Option.elim_some, List.getElem?_cons_zero, List.getElem?_cons_succ, Yld.val, decide_true, decide_false, if_true, if_false, Bool.false_eq_true, Nat.zero_add, Nat.add_zero, and_true, true_and, or_false, Bool.not_true, Bool.not_false, and_self, wBin_add64, wBin_sub64, wIdx_slice, wIdx_array, wNilc_eq, Int.toNat_natCast, Nat.mul_one, Nat.zero_mul, wSt_agg, wSt_int, wSt_bool, wSt_string, wSt_slice, wSt_ptr, wSt_map, wSt_func, stP_cells, bit_one, bit_zero, bit_one', bit_zero', wBin_shr32, wBin_and1, wBin_rem2, wBin_andNot32, wBin_or32, wBin_and32, wBin_shl32, u32_eq_zero, u32_ne_zero, List.length_cons, List.length_nil, Nat.le_refl, Nat.reduceAdd, Nat.reduceMul, Nat.reduceLeDiff, Int.toNat_zero, Int.toNat_one, hi', ldP_row hrow4, hget _ _ (strs_get hv0), wBin_streq, de]
          rw [parseOf_form h0 (.inr (by rw [← he]; exact List.mem_of_getElem? hv0))]
          exact ⟨⟨_, rfl, AccL.zero _ _ _⟩, hE04⟩
        · have de : decide (z = ⟨#[]⟩) = false := by simpa [emp] using he
          simp (disch := first | omega | assumption | exact shr_lt (by assumption) | exact ndiff32 (by assumption) | exact below_lt (by omega) | fail) only [List.getD_cons_zero, List.getD_cons_succ, wBin_lss, wBin_leq, wBin_gtr, wBin_geq, wBin_eql, wBin_neq, wIf_bool, wGuard_true, wGuard_false, wPick_true, wPick_false, wUn_not, wFld_eq, wExt_eq, wPart_one, wPart_agg, wLen_slice, wLen_string, wNew_eq, wNm_eq, dBox_agg, dBox_int, dBox_slice, dBox_string, dBox_bool, dBox_map, dBox_ptr, oneCells, wLd_none, wLd_2, wLd_3, wLd_32, ldP_cells, ldP_rom, cellP_one, getH_same, getH_ne, forceV_eq, forceN_eq, hsK_eq, Option.elim_some, List.getElem?_cons_zero, List.getElem?_cons_succ, Yld.val, decide_true, decide_false, if_true, if_false, Bool.false_eq_true, Nat.zero_add, Nat.add_zero, and_true, true_and, or_false, Bool.not_true, Bool.not_false, and_self, wBin_add64, wBin_sub64, wIdx_slice, wIdx_array, wNilc_eq, Int.toNat_natCast, Nat.mul_one, Nat.zero_mul, wSt_agg, wSt_int, wSt_bool, wSt_string, wSt_slice, wSt_ptr, wSt_map, wSt_func, stP_cells, bit_one, bit_zero, bit_one', bit_zero', wBin_shr32, wBin_and1, wBin_rem2, wBin_andNot32, wBin_or32, wBin_and32, wBin_shl32, u32_eq_zero, u32_ne_zero, List.length_cons, List.length_nil, Nat.le_refl, Nat.reduceAdd, Nat.reduceMul, Nat.reduceLeDiff, Int.toNat_zero, Int.toNat_one, hi', ldP_row hrow4, hget _ _ (strs_get hv0), wBin_streq, de]
          exact hih (m - 1) _ _ _ (by omega) ⟨i + 1, by omega, by simp, fun j t hj ht => by
            by_cases hji : j = i
            · subst hji; rw [hv0] at ht; cases ht; exact he
            · exact hst j t (by omega) ht, rfl, rfl⟩
      · have hi' : ¬ (i : Int) < ((strs (splitS s)).length : Int) := by omega
        have hne : ¬ (idxOf wordL ((splitS s).headD emp) < 0 ∨ emp ∈ splitS s) := by
          rw [hk0]
          rintro (h | h)
          · exact hk h
          · obtain ⟨j, hj⟩ := List.mem_iff_getElem?.1 h
            exact hst j emp (by have := (List.getElem?_eq_some_iff.1 hj).1; omega) hj rfl
        simp (disch := first | omega | assumption | exact shr_lt (by assumption) | exact ndiff32 (by assumption) | exact below_lt (by omega) | fail) only [List.getD_cons_zero, List.getD_cons_succ, wBin_lss, wBin_leq, wBin_gtr, wBin_geq, wBin_eql, wBin_neq, wIf_bool, wGuard_true, wGuard_false, wPick_true, wPick_false, wUn_not, wFld_eq, wExt_eq, wPart_one, wPart_agg, wLen_slice, wLen_string, wNew_eq, wNm_eq, dBox_agg, dBox_int, dBox_slice, dBox_string, dBox_bool, dBox_map, dBox_ptr, oneCells, wLd_none, wLd_2, wLd_3, wLd_32, ldP_cells, ldP_rom, cellP_one, getH_same, getH_ne, forceV_eq, forceN_eq, hsK_eq, Option.elim_some, List.getElem?_cons_zero, List.getElem?_cons_succ, Yld.val, decide_true, decide_false, if_true, if_false, Bool.false_eq_true, Nat.zero_add, Nat.add_zero, and_true, true_and, or_false, Bool.not_true, Bool.not_false, and_self, wBin_add64, wBin_sub64, wIdx_slice, wIdx_array, wNilc_eq, Int.toNat_natCast, Nat.mul_one, Nat.zero_mul, wSt_agg, wSt_int, wSt_bool, wSt_string, wSt_slice, wSt_ptr, wSt_map, wSt_func, stP_cells, bit_one, bit_zero, bit_one', bit_zero', wBin_shr32, wBin_and1, wBin_rem2, wBin_andNot32, wBin_or32, wBin_and32, wBin_shl32, u32_eq_zero, u32_ne_zero, List.length_cons, List.length_nil, Nat.le_refl, Nat.reduceAdd, Nat.reduceMul, Nat.reduceLeDiff, Int.toNat_zero, Int.toNat_one, hi']
        have htl : (splitS s).tail = tl := by rw [hp]; rfl
        have hltl : (splitS s).length = tl.length + 1 := by rw [hp]; rfl
        refine wLoop_rule (fun m L H' nx' => ∃ (k : Nat) (v : Value) (zs : List Int), m + k = tl.length ∧ L = [v, .int .i64 ((k + 1 : Nat) : Int)] ∧ idxs vs (tl.take k) = some zs ∧ AccL (n2 + 7) H' nx' v (i64s zs) ∧ Ext H4 (n2 + 7) H' nx') ?_ (m := tl.length) ⟨0, _, [], by omega, rfl, rfl, AccL.zero _ _ _, Ext.refl _ _⟩
        rintro m2 ih2 L2 H7 n7 ⟨k, v, zs, hm2, rfl, hzs, hacc2, hE47⟩ hih2
        have hE07 := hE04.trans hE47
        have hrow7 : rowOf H7 b = some row := by rw [hE47.row (by omega)]; exact hrow4
        by_cases hk2 : k < tl.length
        · have hk2' : ((k + 1 : Nat) : Int) < ((strs (splitS s)).length : Int) := by omega
          have hx : tl[k]? = some tl[k] := List.getElem?_eq_getElem hk2
          generalize tl[k] = x at hx
          have hx' : (splitS s)[k + 1]? = some x := by rw [hp]; simpa using hx
          have hmem : x ∈ tl := List.mem_of_getElem? hx
          simp (disch := first | omega | assumption | exact shr_lt (by assumption) | exact ndiff32 (by assumption) | exact below_lt (by omega) | fail) only [List.getD_cons_zero, List.getD_cons_succ, wBin_lss, wBin_leq, wBin_gtr, wBin_geq, wBin_eql, wBin_neq, wIf_bool, wGuard_true, wGuard_false, wPick_true, wPick_false, wUn_not, wFld_eq, wExt_eq, wPart_one, wPart_agg, wLen_slice, wLen_string, wNew_eq, wNm_eq, dBox_agg, dBox_int, dBox_slice, dBox_string, dBox_bool, dBox_map, dBox_ptr, oneCells, wLd_none, wLd_2, wLd_3, wLd_32, ldP_cells, ldP_rom, cellP_one, getH_same, getH_ne, forceV_eq, forceN_eq, hsK_eq, Option.elim_some, List.getElem?_cons_zero, List.getElem?_cons_succ, Yld.val, decide_true, decide_false, if_true, if_false, Bool.false_eq_true, Nat.zero_add, Nat.add_zero, and_true, true_and, or_false, Bool.not_true, Bool.not_false, and_self, wBin_add64, wBin_sub64, wIdx_slice, wIdx_array, wNilc_eq, Int.toNat_natCast, Nat.mul_one, Nat.zero_mul, wSt_agg, wSt_int, wSt_bool, wSt_string, wSt_slice, wSt_ptr, wSt_map, wSt_func, stP_cells, bit_one, bit_zero, bit_one', bit_zero', wBin_shr32, wBin_and1, wBin_rem2, wBin_andNot32, wBin_or32, wBin_and32, wBin_shl32, u32_eq_zero, u32_ne_zero, List.length_cons, List.length_nil, Nat.le_refl, Nat.reduceAdd, Nat.reduceMul, Nat.reduceLeDiff, Int.toNat_zero, Int.toNat_one, hk2', ldP_row hrow7, hget _ _ (strs_get hx'), Int.toNat_natCast]
          refine wCall_rule (index26 A vs x cap H7 n7 (hS.ext hE07) (by omega)) ?_
          rintro _ _ _ ⟨rfl, rfl, rfl⟩
          by_cases hlt : idxOf vs x < 0
          · simp (disch := first | omega | assumption | exact shr_lt (by assumption) | exact ndiff32 (by assumption) | exact below_lt (by omega) | fail) only [List.getD_cons_zero, List.getD_cons_succ, wBin_lss, wBin_leq, wBin_gtr, wBin_geq, wBin_eql, wBin_neq, wIf_bool, wGuard_true, wGuard_false, wPick_true, wPick_false, wUn_not, wFld_eq, wExt_eq, wPart_one, wPart_agg, wLen_slice, wLen_string, wNew_eq, wNm_eq, dBox_agg, dBox_int, dBox_slice, dBox_string, dBox_bool, dBox_map, dBox_ptr, oneCells, wLd_none, wLd_2, wLd_3, wLd_32, ldP_cells, ldP_rom, cellP_one, getH_same, getH_ne, forceV_eq, forceN_eq, hsK_eq, Option.elim_some, List.getElem?_cons_zero, List.getElem?_cons_succ, Yld.val, decide_true, decide_false, if_true, if_false, Bool.false_eq_true, Nat.zero_add, Nat.add_zero, and_true, true_and, or_false, Bool.not_true, Bool.not_false, and_self, wBin_add64, wBin_sub64, wIdx_slice, wIdx_array, wNilc_eq, Int.toNat_natCast, Nat.mul_one, Nat.zero_mul, wSt_agg, wSt_int, wSt_bool, wSt_string, wSt_slice, wSt_ptr, wSt_map, wSt_func, stP_cells, bit_one, bit_zero, bit_one', bit_zero', wBin_shr32, wBin_and1, wBin_rem2, wBin_andNot32, wBin_or32, wBin_and32, wBin_shl32, u32_eq_zero, u32_ne_zero, List.length_cons, List.length_nil, Nat.le_refl, Nat.reduceAdd, Nat.reduceMul, Nat.reduceLeDiff, Int.toNat_zero, Int.toNat_one, hlt]
            rw [parseOf_none h0 hne (by rw [htl]; exact idxs_bad hlt hmem)]
            exact ⟨⟨_, rfl, AccL.zero _ _ _⟩, hE07⟩
          · simp (disch := first | omega | assumption | exact shr_lt (by assumption) | exact ndiff32 (by assumption) | exact below_lt (by omega) | fail) only [List.getD_cons_zero, List.getD_cons_succ, wBin_lss, wBin_leq, wBin_gtr, wBin_geq, wBin_eql, wBin_neq, wIf_bool, wGuard_true, wGuard_false, wPick_true, wPick_false, wUn_not, wFld_eq, wExt_eq, wPart_one, wPart_agg, wLen_slice, wLen_string, wNew_eq, wNm_eq, dBox_agg, dBox_int, dBox_slice, dBox_string, dBox_bool, dBox_map, dBox_ptr, oneCells, wLd_none, wLd_2, wLd_3, wLd_32, ldP_cells, ldP_rom, cellP_one, getH_same, getH_ne, forceV_eq, forceN_eq, hsK_eq, Option.elim_some, List.getElem?_cons_zero, List.getElem?_cons_succ, Yld.val, decide_true, decide_false, if_true, if_false, Bool.false_eq_true, Nat.zero_add, Nat.add_zero, and_true, true_and, or_false, Bool.not_true, Bool.not_false, and_self, wBin_add64, wBin_sub64, wIdx_slice, wIdx_array, wNilc_eq, Int.toNat_natCast, Nat.mul_one, Nat.zero_mul, wSt_agg, wSt_int, wSt_bool, wSt_string, wSt_slice, wSt_ptr, wSt_map, wSt_func, stP_cells, bit_one, bit_zero, bit_one', bit_zero', wBin_shr32, wBin_and1, wBin_rem2, wBin_andNot32, wBin_or32, wBin_and32, wBin_shl32, u32_eq_zero, u32_ne_zero, List.length_cons, List.length_nil, Nat.le_refl, Nat.reduceAdd, Nat.reduceMul, Nat.reduceLeDiff, Int.toNat_zero, Int.toNat_one, hlt, dBsl_i64]
            have hE2 : Ext H4 (n2 + 7) (Go.Clo.hs H7 n7 (some (.cells [.int .i64 (idxOf vs x)] 0))) (n7 + 1) := hE47.new _ hE47.le (by omega)
            refine wApp_accL (hacc2.ext ((Ext.refl H7 n7).new _ (Nat.le_refl _) (by omega))) (src_new (getH_same _ _ _) rfl (by omega)) rfl (by omega) (by rw [i64s_length, idxs_length hzs, List.length_take]; omega) hE2 (by have := hE47.le; omega) ?_
            intro v' H' hacc' hE' _
            refine hih2 (m2 - 1) _ _ _ (by omega) ⟨k + 1, v', zs ++ [idxOf vs x], by omega, by simp, ?_, by simpa [i64s] using hacc', hE'⟩
            rw [List.take_add_one, hx]
            exact idxs_snoc hlt hzs
        · have hk2' : ¬ ((k + 1 : Nat) : Int) < ((strs (splitS s)).length : Int) := by omega
          simp (disch := first | omega | assumption | exact shr_lt (by assumption) | exact ndiff32 (by assumption) | exact below_lt (by omega) | fail) only [List.getD_cons_zero, List.getD_cons_succ, wBin_lss, wBin_leq, wBin_gtr, wBin_geq, wBin_eql, wBin_neq, wIf_bool, wGuard_true, wGuard_false, wPick_true, wPick_false, wUn_not, wFld_eq, wExt_eq, wPart_one, wPart_agg, wLen_slice, wLen_string, wNew_eq, wNm_eq, dBox_agg, dBox_int, dBox_slice, dBox_string, dBox_bool, dBox_map, dBox_ptr, oneCells, wLd_none, wLd_2, wLd_3, wLd_32, ldP_cells, ldP_rom, cellP_one, getH_same, getH_ne, forceV_eq, forceN_eq, hsK_eq, Option.elim_some, List.getElem?_cons_zero, List.getElem?_cons_succ, Yld.val, decide_true, decide_false, if_true, if_false, Bool.false_eq_true, Nat.zero_add, Nat.add_zero, and_true, true_and, or_false, Bool.not_true, Bool.not_false, and_self, wBin_add64, wBin_sub64, wIdx_slice, wIdx_array, wNilc_eq, Int.toNat_natCast, Nat.mul_one, Nat.zero_mul, wSt_agg, wSt_int, wSt_bool, wSt_string, wSt_slice, wSt_ptr, wSt_map, wSt_func, stP_cells, bit_one, bit_zero, bit_one', bit_zero', wBin_shr32, wBin_and1, wBin_rem2, wBin_andNot32, wBin_or32, wBin_and32, wBin_shl32, u32_eq_zero, u32_ne_zero, List.length_cons, List.length_nil, Nat.le_refl, Nat.reduceAdd, Nat.reduceMul, Nat.reduceLeDiff, Int.toNat_zero, Int.toNat_one, hk2']
          rw [List.take_of_length_le (by omega)] at hzs
          rw [parseOf_some h0 hne (by rw [htl]; exact hzs), hk0]
          exact ⟨⟨_, rfl, hacc2.low (by have := hE02.le; omega)⟩, hE07⟩
  · have d : decide (codeOf vs ≠ 0) = true := by simp [h0]
    simp (disch := first | omega | assumption | exact shr_lt (by assumption) | exact ndiff32 (by assumption) | exact below_lt (by omega) | fail) only [List.getD_cons_zero, List.getD_cons_succ, wBin_lss, wBin_leq, wBin_gtr, wBin_geq, wBin_eql, wBin_neq, wIf_bool, wGuard_true, wGuard_false, wPick_true, wPick_false, wUn_not, wFld_eq, wExt_eq, wPart_one, wPart_agg, wLen_slice, wLen_string, wNew_eq, wNm_eq, dBox_agg, dBox_int, dBox_slice, dBox_string, dBox_bool, dBox_map, dBox_ptr, oneCells, wLd_none, wLd_2, wLd_3, wLd_32, ldP_cells, ldP_rom, cellP_one, getH_same, getH_ne, forceV_eq, forceN_eq, hsK_eq, Option.elim_some, List.getElem?_cons_zero, List.getElem?_cons_succ, Yld.val, decide_true, decide_false, if_true, if_false, Bool.false_eq_true, Nat.zero_add, Nat.add_zero, and_true, true_and, or_false, Bool.not_true, Bool.not_false, and_self, wBin_add64, wBin_sub64, wIdx_slice, wIdx_array, wNilc_eq, Int.toNat_natCast, Nat.mul_one, Nat.zero_mul, wSt_agg, wSt_int, wSt_bool, wSt_string, wSt_slice, wSt_ptr, wSt_map, wSt_func, stP_cells, bit_one, bit_zero, bit_one', bit_zero', wBin_shr32, wBin_and1, wBin_rem2, wBin_andNot32, wBin_or32, wBin_and32, wBin_shl32, u32_eq_zero, u32_ne_zero, List.length_cons, List.length_nil, Nat.le_refl, Nat.reduceAdd, Nat.reduceMul, Nat.reduceLeDiff, Int.toNat_zero, Int.toNat_one, d]
    rw [parseOf_code h0]
    exact ⟨⟨_, rfl, AccL.zero _ _ _⟩, hX⟩
end Go.Proofs.YtjpgddpobnjmkaaDoor
