/-
  Plain: a text that is printed says what was printed, and the other way; slices.Equal over numbers.
-/
import Derived.Test.YtjpgddpobnjmkaaDoorK23
set_option linter.unusedSimpArgs false
set_option linter.unusedVariables false
set_option linter.unusedSectionVars false
namespace Go.Proofs.YtjpgddpobnjmkaaDoor
open Go.Clo

theorem i64s_inj_get {l : List Int} {i : Nat} {x : Int} (h : l[i]? = some x) : (i64s l)[i]? = some (.int .i64 x) := i64s_get h

set_option maxHeartbeats 1000000 in
theorem equal13 (A B : Option Addr) (p q : List Int) (ca cb : Nat) (H : Heap) (nx : Nat) (hA : Sl H nx A (i64s p)) (hB : Sl H nx B (i64s q)) (hl : p.length ≤ 1000000) :
    Ans Tryd.prog 13 [.slice A p.length ca, .slice B q.length cb] H nx fun r H' nx' => .bool (decide (p = q)) = r ∧ H = H' ∧ nx ≤ nx' := by
  refine spec13 ?_
  unfold F13
  by_cases hne : p.length = q.length
  · have d : decide ((p.length : Int) ≠ (q.length : Int)) = false := by simp [hne]
    simp (disch := first | omega | assumption | exact shr_lt (by assumption) | exact ndiff32 (by assumption) | exact below_lt (by omega) | fail) only [List.getD_cons_zero, List.getD_cons_succ, wBin_lss, wBin_leq, wBin_gtr, wBin_geq, wBin_eql, wBin_neq, wIf_bool, wGuard_true, wGuard_false, wPick_true, wPick_false, wUn_not, wFld_eq, wExt_eq, wPart_one, wPart_agg, wLen_slice, wLen_string, wNew_eq, wNm_eq, dBox_agg, dBox_int, dBox_slice, dBox_string, dBox_bool, dBox_map, dBox_ptr, oneCells, wLd_none, wLd_2, wLd_3, wLd_32, ldP_cells, ldP_rom, cellP_one, getH_same, getH_ne, forceV_eq, forceN_eq, hsK_eq, Option.elim_some, List.getElem?_cons_zero, List.getElem?_cons_succ, Yld.val, decide_true, decide_false, if_true, if_false, Bool.false_eq_true, Nat.zero_add, Nat.add_zero, and_true, true_and, or_false, Bool.not_true, Bool.not_false, and_self, wBin_add64, wBin_sub64, wIdx_slice, wIdx_array, wNilc_eq, Int.toNat_natCast, Nat.mul_one, Nat.zero_mul, wSt_agg, wSt_int, wSt_bool, wSt_string, wSt_slice, wSt_ptr, wSt_map, wSt_func, stP_cells, bit_one, bit_zero, bit_one', bit_zero', wBin_shr32, wBin_and1, wBin_rem2, wBin_andNot32, wBin_or32, wBin_and32, wBin_shl32, u32_eq_zero, u32_ne_zero, List.length_cons, List.length_nil, Nat.le_refl, Nat.reduceAdd, Nat.reduceMul, Nat.reduceLeDiff, Int.toNat_zero, Int.toNat_one, d]
    refine wLoop_rule (fun m L H' nx' => ∃ i : Nat, m + i = p.length ∧ L = [.int .i64 (i : Int)] ∧ (∀ (j : Nat), j < i → p[j]? = q[j]?) ∧ H = H' ∧ nx ≤ nx') ?_ (m := p.length) ⟨0, by omega, rfl, fun j hj => by omega, rfl, Nat.le_refl _⟩
    rintro m ih L _ n1 ⟨i, hm, rfl, hst, rfl, hn1⟩ hih
    simp (disch := first | omega | assumption | exact shr_lt (by assumption) | exact ndiff32 (by assumption) | exact below_lt (by omega) | fail) only [List.getD_cons_zero, List.getD_cons_succ, wBin_lss, wBin_leq, wBin_gtr, wBin_geq, wBin_eql, wBin_neq, wIf_bool, wGuard_true, wGuard_false, wPick_true, wPick_false, wUn_not, wFld_eq, wExt_eq, wPart_one, wPart_agg, wLen_slice, wLen_string, wNew_eq, wNm_eq, dBox_agg, dBox_int, dBox_slice, dBox_string, dBox_bool, dBox_map, dBox_ptr, oneCells, wLd_none, wLd_2, wLd_3, wLd_32, ldP_cells, ldP_rom, cellP_one, getH_same, getH_ne, forceV_eq, forceN_eq, hsK_eq, Option.elim_some, List.getElem?_cons_zero, List.getElem?_cons_succ, Yld.val, decide_true, decide_false, if_true, if_false, Bool.false_eq_true, Nat.zero_add, Nat.add_zero, and_true, true_and, or_false, Bool.not_true, Bool.not_false, and_self, wBin_add64, wBin_sub64, wIdx_slice, wIdx_array, wNilc_eq, Int.toNat_natCast, Nat.mul_one, Nat.zero_mul, wSt_agg, wSt_int, wSt_bool, wSt_string, wSt_slice, wSt_ptr, wSt_map, wSt_func, stP_cells, bit_one, bit_zero, bit_one', bit_zero', wBin_shr32, wBin_and1, wBin_rem2, wBin_andNot32, wBin_or32, wBin_and32, wBin_shl32, u32_eq_zero, u32_ne_zero, List.length_cons, List.length_nil, Nat.le_refl, Nat.reduceAdd, Nat.reduceMul, Nat.reduceLeDiff, Int.toNat_zero, Int.toNat_one]
    by_cases hi : i < p.length
    · have hi' : (i : Int) < (p.length : Int) := by omega
      have hi2 : (i : Int) < (q.length : Int) := by omega
      obtain ⟨b, o, row, rfl, hb, hrow, hget⟩ := hA.open (i := i) (by rw [i64s_length]; exact hi)
      obtain ⟨b2, o2, row2, rfl, hb2, hrow2, hget2⟩ := hB.open (i := i) (by rw [i64s_length]; omega)
      have hx : p[i]? = some p[i] := List.getElem?_eq_getElem hi
      have hy : q[i]? = some (q[i]'(by omega)) := List.getElem?_eq_getElem (by omega)
      generalize p[i] = x at hx
      generalize (q[i]'(by omega)) = y at hy
      by_cases hxy : x = y
      · have d2 : decide (x ≠ y) = false := by simp [hxy]
        simp (disch := first | omega | assumption | exact shr_lt (by assumption) | exact ndiff32 (by assumption) | exact below_lt (by omega) | fail) only [List.getD_cons_zero, List.getD_cons_succ, wBin_lss, wBin_leq, wBin_gtr, wBin_geq, wBin_eql, wBin_neq, wIf_bool, wGuard_true, wGuard_false, wPick_true, wPick_false, wUn_not, wFld_eq, wExt_eq, wPart_one, wPart_agg, wLen_slice, wLen_string, wNew_eq, wNm_eq, dBox_agg, dBox_int, dBox_slice, dBox_string, dBox_bool, dBox_map, dBox_ptr, oneCells, wLd_none, wLd_2, wLd_3, wLd_32, ldP_cells, ldP_rom, cellP_one, getH_same, getH_ne, forceV_eq, forceN_eq, hsK_eq, Option.elim_some, List.getElem?_cons_zero, List.getElem?_cons_succ, Yld.val, decide_true, decide_false, if_true, if_false, Bool.false_eq_true, Nat.zero_add, Nat.add_zero, and_true, true_and, or_false, Bool.not_true, Bool.not_false, and_self, wBin_add64, wBin_sub64, wIdx_slice, wIdx_array, wNilc_eq, Int.toNat_natCast, Nat.mul_one, Nat.zero_mul, wSt_agg, wSt_int, wSt_bool, wSt_string, wSt_slice, wSt_ptr, wSt_map, wSt_func, stP_cells, bit_one, bit_zero, bit_one', bit_zero', wBin_shr32, wBin_and1, wBin_rem2, wBin_andNot32, wBin_or32, wBin_and32, wBin_shl32, u32_eq_zero, u32_ne_zero, List.length_cons, List.length_nil, Nat.le_refl, Nat.reduceAdd, Nat.reduceMul, Nat.reduceLeDiff, Int.toNat_zero, Int.toNat_one, hi', hi2, ldP_row hrow, ldP_row hrow2, hget _ _ (i64s_get hx), hget2 _ _ (i64s_get hy), d2]
        exact hih (m - 1) _ _ _ (by omega) ⟨i + 1, by omega, by simp, fun j hj => by
          by_cases hji : j = i
          · subst hji; rw [hx, hy, hxy]
          · exact hst j (by omega), rfl, by omega⟩
      · have d2 : decide (x ≠ y) = true := by simp [hxy]
        simp (disch := first | omega | assumption | exact shr_lt (by assumption) | exact ndiff32 (by assumption) | exact below_lt (by omega) | fail) only [List.getD_cons_zero, List.getD_cons_succ, wBin_lss, wBin_leq, wBin_gtr, wBin_geq, wBin_eql, wBin_neq, wIf_bool, wGuard_true, wGuard_false, wPick_true, wPick_false, wUn_not, wFld_eq, wExt_eq, wPart_one, wPart_agg, wLen_slice, wLen_string, wNew_eq, wNm_eq, dBox_agg, dBox_int, dBox_slice, dBox_string, dBox_bool, dBox_map, dBox_ptr, oneCells, wLd_none, wLd_2, wLd_3, wLd_32, ldP_cells, ldP_rom, cellP_one, getH_same, getH_ne, forceV_eq, forceN_eq, hsK_eq, Option.elim_some, List.getElem?_cons_zero, List.getElem?_cons_succ, Yld.val, decide_true, decide_false, if_true, if_false, Bool.false_eq_true, Nat.zero_add, Nat.add_zero, and_true, true_and, or_false, Bool.not_true, Bool.not_false, and_self, wBin_add64, wBin_sub64, wIdx_slice, wIdx_array, wNilc_eq, Int.toNat_natCast, Nat.mul_one, Nat.zero_mul, wSt_agg, wSt_int, wSt_bool, wSt_string, wSt_slice, wSt_ptr, wSt_map, wSt_func, stP_cells, bit_one, bit_zero, bit_one', bit_zero', wBin_shr32, wBin_and1, wBin_rem2, wBin_andNot32, wBin_or32, wBin_and32, wBin_shl32, u32_eq_zero, u32_ne_zero, List.length_cons, List.length_nil, Nat.le_refl, Nat.reduceAdd, Nat.reduceMul, Nat.reduceLeDiff, Int.toNat_zero, Int.toNat_one, hi', hi2, ldP_row hrow, ldP_row hrow2, hget _ _ (i64s_get hx), hget2 _ _ (i64s_get hy), d2]
        refine ⟨?_, by omega⟩
        have : p ≠ q := fun e => by
          subst e
          rw [hx] at hy
          injection hy with hy
          exact hxy hy
        simp [this]
    · have hi' : ¬ (i : Int) < (p.length : Int) := by omega
      simp (disch := first | omega | assumption | exact shr_lt (by assumption) | exact ndiff32 (by assumption) | exact below_lt (by omega) | fail) only [List.getD_cons_zero, List.getD_cons_succ, wBin_lss, wBin_leq, wBin_gtr, wBin_geq, wBin_eql, wBin_neq, wIf_bool, wGuard_true, wGuard_false, wPick_true, wPick_false, wUn_not, wFld_eq, wExt_eq, wPart_one, wPart_agg, wLen_slice, wLen_string, wNew_eq, wNm_eq, dBox_agg, dBox_int, dBox_slice, dBox_string, dBox_bool, dBox_map, dBox_ptr, oneCells, wLd_none, wLd_2, wLd_3, wLd_32, ldP_cells, ldP_rom, cellP_one, getH_same, getH_ne, forceV_eq, forceN_eq, hsK_eq, Option.elim_some, List.getElem?_cons_zero, List.getElem?_cons_succ, Yld.val, decide_true, decide_false, if_true, if_false, Bool.false_eq_true, Nat.zero_add, Nat.add_zero, and_true, true_and, or_false, Bool.not_true, Bool.not_false, and_self, wBin_add64, wBin_sub64, wIdx_slice, wIdx_array, wNilc_eq, Int.toNat_natCast, Nat.mul_one, Nat.zero_mul, wSt_agg, wSt_int, wSt_bool, wSt_string, wSt_slice, wSt_ptr, wSt_map, wSt_func, stP_cells, bit_one, bit_zero, bit_one', bit_zero', wBin_shr32, wBin_and1, wBin_rem2, wBin_andNot32, wBin_or32, wBin_and32, wBin_shl32, u32_eq_zero, u32_ne_zero, List.length_cons, List.length_nil, Nat.le_refl, Nat.reduceAdd, Nat.reduceMul, Nat.reduceLeDiff, Int.toNat_zero, Int.toNat_one, hi']
      refine ⟨?_, hn1⟩
      have : p = q := List.ext_getElem? fun j => by
        by_cases hj : j < i
        · exact hst j hj
        · rw [List.getElem?_eq_none (by omega), List.getElem?_eq_none (by omega)]
      simp [this]
  · have d : decide ((p.length : Int) ≠ (q.length : Int)) = true := by simp; omega
    have : p ≠ q := fun e => hne (by rw [e])
    simp (disch := first | omega | assumption | exact shr_lt (by assumption) | exact ndiff32 (by assumption) | exact below_lt (by omega) | fail) only [List.getD_cons_zero, List.getD_cons_succ, wBin_lss, wBin_leq, wBin_gtr, wBin_geq, wBin_eql, wBin_neq, wIf_bool, wGuard_true, wGuard_false, wPick_true, wPick_false, wUn_not, wFld_eq, wExt_eq, wPart_one, wPart_agg, wLen_slice, wLen_string, wNew_eq, wNm_eq, dBox_agg, dBox_int, dBox_slice, dBox_string, dBox_bool, dBox_map, dBox_ptr, oneCells, wLd_none, wLd_2, wLd_3, wLd_32, ldP_cells, ldP_rom, cellP_one, getH_same, getH_ne, forceV_eq, forceN_eq, hsK_eq, Option.elim_some, List.getElem?_cons_zero, List.getElem?_cons_succ, Yld.val, decide_true, decide_false, if_true, if_false, Bool.false_eq_true, Nat.zero_add, Nat.add_zero, and_true, true_and, or_false, Bool.not_true, Bool.not_false, and_self, wBin_add64, wBin_sub64, wIdx_slice, wIdx_array, wNilc_eq, Int.toNat_natCast, Nat.mul_one, Nat.zero_mul, wSt_agg, wSt_int, wSt_bool, wSt_string, wSt_slice, wSt_ptr, wSt_map, wSt_func, stP_cells, bit_one, bit_zero, bit_one', bit_zero', wBin_shr32, wBin_and1, wBin_rem2, wBin_andNot32, wBin_or32, wBin_and32, wBin_shl32, u32_eq_zero, u32_ne_zero, List.length_cons, List.length_nil, Nat.le_refl, Nat.reduceAdd, Nat.reduceMul, Nat.reduceLeDiff, Int.toNat_zero, Int.toNat_one, d]
    simp [this]

/-! Blanks. -/
theorem join_split : ∀ {l : List UInt8} {h : List UInt8} {t : List (List UInt8)}, splitL l = h :: t → h ++ Lib.joinTail [32] t = l
  | [], h, t, e => by
    cases e; rfl
  | c :: r, h, t, e => by
    rw [splitL] at e
    by_cases hc : c = 32
    · rw [if_pos hc] at e
      cases hr : splitL r with
      | nil => have := splitL_length r; rw [hr] at this; simp at this
      | cons a b =>
        rw [hr] at e
        cases e
        have := join_split hr
        simp only [Lib.joinTail, List.map_cons, List.flatten_cons] at this ⊢
        rw [hc, ← this]
        simp
    · rw [if_neg hc] at e
      cases hr : splitL r with
      | nil => have := splitL_length r; rw [hr] at this; simp at this
      | cons a b =>
        rw [hr] at e
        cases e
        have := join_split hr
        rw [List.cons_append, this]
theorem split_join : ∀ {zs : List (List UInt8)} {w : List UInt8}, (∀ c ∈ w, c ≠ 32) → (∀ z ∈ zs, ∀ c ∈ z, c ≠ 32) → splitL (w ++ Lib.joinTail [32] zs) = w :: zs
  | [], w, hw, _ => by
    simp only [Lib.joinTail, List.map_nil, List.flatten_nil, List.append_nil]
    exact splitL_last hw
  | z :: zs, w, hw, hz => by
    have e : w ++ Lib.joinTail [32] (z :: zs) = w ++ 32 :: (z ++ Lib.joinTail [32] zs) := by simp [Lib.joinTail]
    rw [e, splitL_at hw, split_join (hz z (by simp)) (fun y hy => hz y (List.mem_cons_of_mem _ hy))]
theorem map_data (zs : List ByteArray) : (zs.map (·.data.toList)).map mkB = zs := by
  rw [List.map_map]
  conv => rhs; rw [← List.map_id zs]
  apply List.map_congr_left
  intro z _
  exact mkB_of z
def NoBlank (s : ByteArray) : Prop := ∀ c ∈ s.data.toList, c ≠ 32
theorem splitS_text {w : ByteArray} {zs : List ByteArray} (hw : NoBlank w) (hz : ∀ z ∈ zs, NoBlank z) : splitS (w ++ catS zs) = w :: zs := by
  unfold splitS
  rw [ByteArray.data_append, Array.toList_append, catS_data, split_join hw (fun y hy => by
    obtain ⟨z, h1, rfl⟩ := List.mem_map.1 hy
    exact hz z h1), List.map_cons, mkB_of, map_data]
theorem text_split {s w : ByteArray} {zs : List ByteArray} (h : splitS s = w :: zs) : w ++ catS zs = s := by
  unfold splitS at h
  cases hl : splitL s.data.toList with
  | nil => rw [hl] at h; cases h
  | cons a b =>
    rw [hl] at h
    cases h
    have e := join_split hl
    apply bytes_eq
    rw [ByteArray.toList_eq, ByteArray.toList_eq, ByteArray.data_append, Array.toList_append, catS_data, mkB_data, ← e]
    congr 2
    rw [List.map_map]
    conv => rhs; rw [← List.map_id b]
    apply List.map_congr_left
    intro z _
    exact mkB_data z

/-! Valid names have no blanks. -/
theorem name_byte {s : ByteArray} (h : NameOK s) {i : Nat} {c : UInt8} (hc : s[i]? = some c) : c ≠ 32 := by
  intro e
  subst e
  rcases h.2.2 i _ hc with h | ⟨_, h⟩
  · revert h; decide
  · revert h; decide
theorem valid_noblank {s : ByteArray} (h : validB s = true) : NoBlank s ∧ s ≠ emp := by
  unfold validB at h
  have h : NameOK (strip s) := by simpa using h
  have hpos : 1 ≤ s.size := Nat.le_trans h.1 (strip_size s)
  refine ⟨fun c hc => ?_, fun e => by rw [e] at hpos; revert hpos; decide⟩
  obtain ⟨i, hi⟩ := List.mem_iff_getElem?.1 hc
  have hlt := (List.getElem?_eq_some_iff.1 hi).1
  rw [data_size] at hlt
  by_cases ht : Tail s
  · have he : strip s = s.extract 0 (s.size - 2) := if_pos ht
    rw [he] at h
    obtain ⟨a, b, h2, ha, hb, q1, q2, q3⟩ := ht
    rw [byte_list] at ha hb
    by_cases h1 : i < s.size - 2
    · refine name_byte h (i := i) ?_
      rw [byte_list, extract_mk, mkB_data, List.getElem?_take, if_pos (by omega), List.getElem?_drop, Nat.zero_add]
      exact hi
    · by_cases h3 : i = s.size - 2
      · rw [h3, ha] at hi
        injection hi with hi
        intro e
        rw [← hi] at e
        rw [e] at q1
        revert q1; decide
      · have h4 : i = s.size - 1 := by omega
        rw [h4, hb] at hi
        injection hi with hi
        intro e
        rw [← hi] at e
        rw [e] at q2
        revert q2; decide
  · have he : strip s = s := if_neg ht
    rw [he] at h
    exact name_byte h (by rw [byte_list]; exact hi)
theorem code_valid {vs : List ByteArray} (h : codeOf vs = 0) : ∀ s ∈ vs, validB s = true := by
  unfold codeOf at h
  split at h
  · cases h
  · rename_i hn
    intro s hs
    cases hv : validB s with
    | true => rfl
    | false => exact absurd ⟨s, hs, hv⟩ hn
theorem code_of {vs : List ByteArray} (h : ∀ s ∈ vs, validB s = true) (hn : vs.Nodup) : codeOf vs = 0 := by
  unfold codeOf
  rw [if_neg, if_pos hn]
  rintro ⟨s, h1, h2⟩
  rw [h s h1] at h2; cases h2
theorem word_open {p0 : ByteArray} (h : ¬ idxOf wordL p0 < 0) : wordL.getD (idxOf wordL p0).toNat ⟨#[]⟩ = p0 ∧ idxOf wordL p0 ≤ 3 := by
  have hm : p0 ∈ wordL := by
    by_cases hm : p0 ∈ wordL
    · exact hm
    · exact absurd (idxOf_neg.2 hm) h
  have hlt : wordL.findIdx (fun t => decide (t = p0)) < wordL.length := List.findIdx_lt_length.2 ⟨p0, hm, by simp⟩
  rw [idxOf_yes hm, Int.toNat_natCast]
  have := List.findIdx_getElem (w := hlt)
  simp only [decide_eq_true_eq] at this
  refine ⟨?_, by have : wordL.length = 4 := rfl; omega⟩
  rw [List.getD_eq_getElem?_getD, List.getElem?_eq_getElem hlt, this]; rfl
theorem pick_idx {vs : List ByteArray} (hn : vs.Nodup) {i : Int} {z : ByteArray} (h : pick vs i = some z) : idxOf vs z = i := by
  unfold pick at h
  split at h
  · rename_i h0
    have hl := (List.getElem?_eq_some_iff.1 h).1
    have : idxOf vs z = (i.toNat : Nat) := idxOf_at h fun j t hj ht he => by
      subst he
      have hjl : j < vs.length := by omega
      have := List.pairwise_iff_getElem.1 hn j i.toNat hjl hl hj
      apply this
      rw [List.getElem?_eq_getElem hjl] at ht
      rw [List.getElem?_eq_getElem hl] at h
      injection ht with ht
      injection h with h
      rw [ht, h]
    rw [this]; omega
  · cases h
theorem idx_pick {vs : List ByteArray} {s : ByteArray} (h : ¬ idxOf vs s < 0) : pick vs (idxOf vs s) = some s := by
  have hm : s ∈ vs := by
    by_cases hm : s ∈ vs
    · exact hm
    · exact absurd (idxOf_neg.2 hm) h
  have hlt : vs.findIdx (fun t => decide (t = s)) < vs.length := List.findIdx_lt_length.2 ⟨s, hm, by simp⟩
  unfold pick
  rw [if_pos (by omega), idxOf_yes hm, Int.toNat_natCast, List.getElem?_eq_getElem hlt]
  have := List.findIdx_getElem (w := hlt)
  simp only [decide_eq_true_eq] at this
  rw [this]
theorem list_idxs {vs : List ByteArray} (hn : vs.Nodup) : ∀ {l : List Int} {zs : List ByteArray}, listOf vs l = some zs → idxs vs zs = some l
  | [], zs, h => by cases h; rfl
  | i :: r, zs, h => by
    unfold listOf at h
    cases hp : pick vs i with
    | none => rw [hp] at h; cases h
    | some y =>
      rw [hp] at h
      obtain ⟨ys, h1, rfl⟩ := Option.map_eq_some_iff.1 h
      have e := pick_idx hn hp
      have h0 : ¬ i < 0 := fun h => by unfold pick at hp; rw [if_neg (by omega)] at hp; cases hp
      rw [idxs, if_neg (by rw [e]; exact h0), list_idxs hn h1, e]; rfl
theorem idxs_list {vs : List ByteArray} : ∀ {zs : List ByteArray} {l : List Int}, idxs vs zs = some l → listOf vs l = some zs
  | [], zs, h => by cases h; rfl
  | s :: r, zs, h => by
    unfold idxs at h
    by_cases hp : idxOf vs s < 0
    · rw [if_pos hp] at h; cases h
    · rw [if_neg hp] at h
      obtain ⟨ys, h1, rfl⟩ := Option.map_eq_some_iff.1 h
      rw [listOf, idx_pick hp]
      simp only
      rw [idxs_list h1]; rfl
theorem word_blank : ∀ w ∈ wordL, NoBlank w ∧ w ≠ emp := by
  intro w hw
  simp only [wordL, List.mem_cons, List.not_mem_nil, or_false] at hw
  rcases hw with rfl | rfl | rfl | rfl <;> exact ⟨by unfold NoBlank; decide, by decide⟩
theorem word_idx {n : Nat} (h : n < 4) : idxOf wordL (wordL.getD n ⟨#[]⟩) = (n : Int) := by
  have key : ∀ j : Nat, j < 4 → ∀ n : Nat, n < 4 → j < n → wordL.getD j ⟨#[]⟩ ≠ wordL.getD n ⟨#[]⟩ := by decide
  have hl : wordL.length = 4 := rfl
  refine idxOf_at ?_ fun j t hj ht e => ?_
  · rw [List.getD_eq_getElem?_getD, List.getElem?_eq_getElem (by omega)]; rfl
  · refine key j (by omega) n h hj ?_
    rw [List.getD_eq_getElem?_getD, ht, ← e]; rfl
theorem word_mem {n : Nat} (h : n < 4) : wordL.getD n ⟨#[]⟩ ∈ wordL := by
  match n, h with
  | 0, _ => simp [wordL]
  | 1, _ => simp [wordL]
  | 2, _ => simp [wordL]
  | 3, _ => simp [wordL]
/-- A printed verdict is restored from its text. -/
theorem parse_text {vs : List ByteArray} {kind : Int} {l : List Int} (h : (textOf vs kind l).2 = 0) : parseOf vs (textOf vs kind l).1 = (kind, l, 0) ∧ ∃ zs, listOf vs l = some zs ∧ 0 ≤ kind ∧ kind ≤ 3 ∧ (textOf vs kind l).1 = wordL.getD kind.toNat ⟨#[]⟩ ++ catS zs := by
  by_cases h0 : codeOf vs = 0
  · by_cases hk : kind < 0 ∨ 3 < kind
    · rw [textOf_kind h0 hk] at h; cases h
    · cases hl : listOf vs l with
      | none => rw [textOf_none h0 hk hl] at h; cases h
      | some zs =>
        rw [textOf_some h0 hk hl]
        have hkn : kind.toNat < 4 := by omega
        obtain ⟨hw1, hw2⟩ := word_blank _ (word_mem hkn)
        have hz : ∀ z ∈ zs, NoBlank z ∧ z ≠ emp := fun z hz => valid_noblank (code_valid h0 z (listOf_mem hl z hz))
        have hs := splitS_text hw1 (fun z h => (hz z h).1)
        refine ⟨?_, zs, rfl, by omega, by omega, rfl⟩
        have hwi := word_idx hkn
        have e : parseOf vs (wordL.getD kind.toNat ⟨#[]⟩ ++ catS zs) = _ := parseOf_some (l := l) h0 (by
          rw [hs]
          rintro (h | h)
          · rw [List.headD_cons, hwi] at h; omega
          · rcases List.mem_cons.1 h with h | h
            · exact hw2 h.symm
            · exact (hz _ h).2 rfl) (by rw [hs, List.tail_cons]; exact list_idxs (code_nodup h0) hl)
        rw [e, hs, List.headD_cons, hwi]
        congr 1
        omega
  · rw [textOf_code h0] at h; exact absurd h h0
/-- A parsed text is printed again. -/
theorem text_parse {vs : List ByteArray} {s : ByteArray} (h : (parseOf vs s).2.2 = 0) : textOf vs (parseOf vs s).1 (parseOf vs s).2.1 = (s, 0) ∧ (parseOf vs s).2.1.length ≤ s.size := by
  by_cases h0 : codeOf vs = 0
  · by_cases hk : idxOf wordL ((splitS s).headD emp) < 0 ∨ emp ∈ splitS s
    · rw [parseOf_form h0 hk] at h; cases h
    · cases hl : idxs vs (splitS s).tail with
      | none => rw [parseOf_none h0 hk hl] at h; cases h
      | some l =>
        rw [parseOf_some h0 hk hl]
        obtain ⟨p0, tl, hp⟩ := split_open s
        rw [hp, List.headD_cons] at hk ⊢
        rw [hp, List.tail_cons] at hl
        have hk1 : ¬ idxOf wordL p0 < 0 := fun h => hk (.inl h)
        obtain ⟨hw, h3⟩ := word_open hk1
        constructor
        · rw [textOf_some h0 (by omega) (idxs_list hl), hw, text_split hp]
        · have h1 := splitS_le s
          rw [hp, List.length_cons] at h1
          rw [idxs_length hl]; omega
  · rw [parseOf_code h0] at h; exact absurd h h0
theorem parse_size {vs : List ByteArray} (s : ByteArray) : (parseOf vs s).2.1.length ≤ s.size := by
  by_cases h : (parseOf vs s).2.2 = 0
  · exact (text_parse h).2
  · by_cases h0 : codeOf vs = 0
    · by_cases hk : idxOf wordL ((splitS s).headD emp) < 0 ∨ emp ∈ splitS s
      · rw [parseOf_form h0 hk]; simp
      · cases hl : idxs vs (splitS s).tail with
        | none => rw [parseOf_none h0 hk hl]; simp
        | some l => rw [parseOf_some h0 hk hl] at h; exact absurd rfl h
    · rw [parseOf_code h0]; simp
end Go.Proofs.YtjpgddpobnjmkaaDoor
