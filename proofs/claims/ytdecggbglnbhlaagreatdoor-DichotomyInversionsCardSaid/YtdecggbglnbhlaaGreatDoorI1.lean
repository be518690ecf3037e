/-
  Contracts: slices.Clone over numbers; the reference's count of inversions; the program's, by merging runs.
-/
import Derived.Test.YtdecggbglnbhlaaGreatDoorLm
import Derived.Test.YtdecggbglnbhlaaGreatDoorInv
import Derived.Test.YtdecggbglnbhlaaGreatDoorG1
set_option linter.unusedSimpArgs false
set_option linter.unusedVariables false
set_option linter.unusedSectionVars false
namespace Go.Proofs.YtdecggbglnbhlaaGreatDoor
open Go.Clo Go.Inv

theorem clone32 (A : Option Addr) (p : List Int) (cap : Nat) (H : Heap) (nx : Nat) (hS : Sl H nx A (i64s p)) (hA0 : Has H nx A) (hl : p.length ≤ 1000) :
    Ans Tryz.prog 32 [.slice A p.length cap] H nx fun r H' nx' => (∃ A', r = .slice A' p.length p.length ∧ (p ≠ [] → ∃ q, A' = some ⟨q, 0, none⟩ ∧ nx ≤ q ∧ q < nx' ∧ getH H' q = some (.cells (i64s p) 1))) ∧ Ext H nx H' nx' := by
  refine spec32 ?_
  unfold F32
  cases A with
  | none =>
    have hp : p = [] := by
      cases p with
      | nil => rfl
      | cons x r =>
        obtain ⟨b, o, row, e, _⟩ := hS 0 (.int .i64 x) rfl
        cases e
    subst hp
    simp (disch := first | omega | assumption | exact shr_lt (by assumption) | exact ndiff32 (by assumption) | exact below_lt (by omega) | fail) only [List.getD_cons_zero, List.getD_cons_succ, wBin_lss, wBin_leq, wBin_gtr, wBin_geq, wBin_eql, wBin_neq, wIf_bool, wGuard_true, wGuard_false, wPick_true, wPick_false, wUn_not, wFld_eq, wExt_eq, wPart_one, wPart_agg, wLen_slice, wLen_string, wNew_eq, wNm_eq, dBox_agg, dBox_int, dBox_slice, dBox_string, dBox_bool, dBox_map, dBox_ptr, oneCells, wLd_none, wLd_2, wLd_3, wLd_32, ldP_cells, ldP_rom, cellP_one, getH_same, getH_ne, forceV_eq, forceN_eq, hsK_eq, Option.elim_some, List.getElem?_cons_zero, List.getElem?_cons_succ, Yld.val, decide_true, decide_false, if_true, if_false, Bool.false_eq_true, Nat.zero_add, Nat.add_zero, and_true, true_and, or_false, Bool.not_true, Bool.not_false, and_self, wBin_add64, wBin_sub64, wIdx_slice, wIdx_array, wNilc_eq, Int.toNat_natCast, Nat.mul_one, Nat.zero_mul, wSt_agg, wSt_int, wSt_bool, wSt_string, wSt_slice, wSt_ptr, wSt_map, wSt_func, stP_cells, bit_one, bit_zero, bit_one', bit_zero', wBin_shr32, wBin_and1, wBin_rem2, wBin_andNot32, wBin_or32, wBin_and32, wBin_shl32, u32_eq_zero, u32_ne_zero, List.length_cons, List.length_nil, Nat.le_refl, Nat.reduceAdd, Nat.reduceMul, Nat.reduceLeDiff, Int.toNat_zero, Int.toNat_one, wVf_isnil, Option.isNone_none]
    exact ⟨⟨none, rfl, fun h => absurd rfl h⟩, Ext.refl _ _⟩
  | some a =>
    have hX : Ext H nx (hs H nx (some (.cells [] 0))) (nx + 1) := (Ext.refl H nx).new _ (Nat.le_refl _) (by omega)
    simp (disch := first | omega | assumption | exact shr_lt (by assumption) | exact ndiff32 (by assumption) | exact below_lt (by omega) | fail) only [List.getD_cons_zero, List.getD_cons_succ, wBin_lss, wBin_leq, wBin_gtr, wBin_geq, wBin_eql, wBin_neq, wIf_bool, wGuard_true, wGuard_false, wPick_true, wPick_false, wUn_not, wFld_eq, wExt_eq, wPart_one, wPart_agg, wLen_slice, wLen_string, wNew_eq, wNm_eq, dBox_agg, dBox_int, dBox_slice, dBox_string, dBox_bool, dBox_map, dBox_ptr, oneCells, wLd_none, wLd_2, wLd_3, wLd_32, ldP_cells, ldP_rom, cellP_one, getH_same, getH_ne, forceV_eq, forceN_eq, hsK_eq, Option.elim_some, List.getElem?_cons_zero, List.getElem?_cons_succ, Yld.val, decide_true, decide_false, if_true, if_false, Bool.false_eq_true, Nat.zero_add, Nat.add_zero, and_true, true_and, or_false, Bool.not_true, Bool.not_false, and_self, wBin_add64, wBin_sub64, wIdx_slice, wIdx_array, wNilc_eq, Int.toNat_natCast, Nat.mul_one, Nat.zero_mul, wSt_agg, wSt_int, wSt_bool, wSt_string, wSt_slice, wSt_ptr, wSt_map, wSt_func, stP_cells, bit_one, bit_zero, bit_one', bit_zero', wBin_shr32, wBin_and1, wBin_rem2, wBin_andNot32, wBin_or32, wBin_and32, wBin_shl32, u32_eq_zero, u32_ne_zero, List.length_cons, List.length_nil, Nat.le_refl, Nat.reduceAdd, Nat.reduceMul, Nat.reduceLeDiff, Int.toNat_zero, Int.toNat_one, wVf_isnil, Option.isNone_some, dBsl_none]
    by_cases hp : p = []
    · subst hp
      simp only [List.length_nil]
      rw [wApp_lit0 (getH_same _ _ _) (by rfl) (src_none (hA0.ext hX)) (by omega) (by omega)]
      exact ⟨⟨_, rfl, fun h => absurd rfl h⟩, hX.hs (Nat.le_refl _)⟩
    · have hpos : 0 < p.length := List.length_pos_iff.2 hp
      have hlen := i64s_length p
      have hsrc : Src (hs H nx (some (.cells [] 0))) 1 (.slice (some a) p.length cap) p.length (i64s p) := src_sl (hS.ext hX) (by omega) (by omega)
      rw [wApp_lit (by omega) (getH_same _ _ _) (by rfl) hsrc hpos (oneCells_i64s p) (by omega) (by omega)]
      refine ⟨⟨some ⟨nx + 1, 0, none⟩, by simp, fun _ => ⟨nx + 1, rfl, by omega, by omega, ?_⟩⟩, hX.new _ (by omega) (by omega)⟩
      rw [getH_same]; rfl

theorem drop_cons {p : List Int} {i : Nat} {x : Int} (h : p[i]? = some x) : p.drop i = x :: p.drop (i + 1) := by
  obtain ⟨hi, rfl⟩ := List.getElem?_eq_some_iff.1 h
  exact List.drop_eq_getElem_cons hi

set_option maxHeartbeats 1000000 in
theorem ref13 (A : Option Addr) (p : List Int) (cap : Nat) (H : Heap) (nx : Nat) (hS : Sl H nx A (i64s p)) (hl : p.length ≤ 1000) :
    Ans Tryz.prog 13 [.slice A p.length cap] H nx fun r H' nx' => .int .i64 (inv p : Nat) = r ∧ H = H' ∧ nx ≤ nx' := by
  refine spec13 ?_
  unfold F13
  have hb := inv_le p
  have hsq : p.length * p.length ≤ 1000000 := Nat.mul_le_mul hl hl
  refine wLoop_rule (fun m L H' nx' => ∃ i c : Nat, m + i = p.length ∧ L = [.int .i64 (c : Int), .int .i64 (i : Int)] ∧ c + inv (p.drop i) = inv p ∧ H = H' ∧ nx ≤ nx') ?_ (m := p.length) ⟨0, 0, by omega, rfl, by simp, rfl, Nat.le_refl _⟩
  rintro m ih L _ n1 ⟨i, c, hm, rfl, hc, rfl, hn1⟩ hih
  simp (disch := first | omega | assumption | exact shr_lt (by assumption) | exact ndiff32 (by assumption) | exact below_lt (by omega) | fail) only [List.getD_cons_zero, List.getD_cons_succ, wBin_lss, wBin_leq, wBin_gtr, wBin_geq, wBin_eql, wBin_neq, wIf_bool, wGuard_true, wGuard_false, wPick_true, wPick_false, wUn_not, wFld_eq, wExt_eq, wPart_one, wPart_agg, wLen_slice, wLen_string, wNew_eq, wNm_eq, dBox_agg, dBox_int, dBox_slice, dBox_string, dBox_bool, dBox_map, dBox_ptr, oneCells, wLd_none, wLd_2, wLd_3, wLd_32, ldP_cells, ldP_rom, cellP_one, getH_same, getH_ne, forceV_eq, forceN_eq, hsK_eq, Option.elim_some, List.getElem?_cons_zero, List.getElem?_cons_succ, Yld.val, decide_true, decide_false, if_true, if_false, Bool.false_eq_true, Nat.zero_add, Nat.add_zero, and_true, true_and, or_false, Bool.not_true, Bool.not_false, and_self, wBin_add64, wBin_sub64, wIdx_slice, wIdx_array, wNilc_eq, Int.toNat_natCast, Nat.mul_one, Nat.zero_mul, wSt_agg, wSt_int, wSt_bool, wSt_string, wSt_slice, wSt_ptr, wSt_map, wSt_func, stP_cells, bit_one, bit_zero, bit_one', bit_zero', wBin_shr32, wBin_and1, wBin_rem2, wBin_andNot32, wBin_or32, wBin_and32, wBin_shl32, u32_eq_zero, u32_ne_zero, List.length_cons, List.length_nil, Nat.le_refl, Nat.reduceAdd, Nat.reduceMul, Nat.reduceLeDiff, Int.toNat_zero, Int.toNat_one]
  by_cases hi : i < p.length
  · have hi' : (i : Int) < (p.length : Int) := by omega
    have hx : p[i]? = some p[i] := List.getElem?_eq_getElem hi
    generalize p[i] = x at hx
    have hd := drop_cons hx
    rw [hd, inv] at hc
    simp (disch := first | omega | assumption | exact shr_lt (by assumption) | exact ndiff32 (by assumption) | exact below_lt (by omega) | fail) only [List.getD_cons_zero, List.getD_cons_succ, wBin_lss, wBin_leq, wBin_gtr, wBin_geq, wBin_eql, wBin_neq, wIf_bool, wGuard_true, wGuard_false, wPick_true, wPick_false, wUn_not, wFld_eq, wExt_eq, wPart_one, wPart_agg, wLen_slice, wLen_string, wNew_eq, wNm_eq, dBox_agg, dBox_int, dBox_slice, dBox_string, dBox_bool, dBox_map, dBox_ptr, oneCells, wLd_none, wLd_2, wLd_3, wLd_32, ldP_cells, ldP_rom, cellP_one, getH_same, getH_ne, forceV_eq, forceN_eq, hsK_eq, Option.elim_some, List.getElem?_cons_zero, List.getElem?_cons_succ, Yld.val, decide_true, decide_false, if_true, if_false, Bool.false_eq_true, Nat.zero_add, Nat.add_zero, and_true, true_and, or_false, Bool.not_true, Bool.not_false, and_self, wBin_add64, wBin_sub64, wIdx_slice, wIdx_array, wNilc_eq, Int.toNat_natCast, Nat.mul_one, Nat.zero_mul, wSt_agg, wSt_int, wSt_bool, wSt_string, wSt_slice, wSt_ptr, wSt_map, wSt_func, stP_cells, bit_one, bit_zero, bit_one', bit_zero', wBin_shr32, wBin_and1, wBin_rem2, wBin_andNot32, wBin_or32, wBin_and32, wBin_shl32, u32_eq_zero, u32_ne_zero, List.length_cons, List.length_nil, Nat.le_refl, Nat.reduceAdd, Nat.reduceMul, Nat.reduceLeDiff, Int.toNat_zero, Int.toNat_one, hi']
    refine wLoop_rule (fun m2 L2 H' nx' => ∃ k c2 : Nat, m2 + k = p.length ∧ L2 = [.int .i64 (c2 : Int), .int .i64 (k : Int)] ∧ i < k ∧ c2 + less x (p.drop k) = c + less x (p.drop (i + 1)) ∧ H = H' ∧ nx ≤ nx') ?_ (m := p.length - (i + 1)) ⟨i + 1, c, by omega, by simp, by omega, rfl, rfl, hn1⟩
    rintro m2 ih2 L2 _ n2 ⟨k, c2, hm2, rfl, hik, hc2, rfl, hn2⟩ hih2
    simp (disch := first | omega | assumption | exact shr_lt (by assumption) | exact ndiff32 (by assumption) | exact below_lt (by omega) | fail) only [List.getD_cons_zero, List.getD_cons_succ, wBin_lss, wBin_leq, wBin_gtr, wBin_geq, wBin_eql, wBin_neq, wIf_bool, wGuard_true, wGuard_false, wPick_true, wPick_false, wUn_not, wFld_eq, wExt_eq, wPart_one, wPart_agg, wLen_slice, wLen_string, wNew_eq, wNm_eq, dBox_agg, dBox_int, dBox_slice, dBox_string, dBox_bool, dBox_map, dBox_ptr, oneCells, wLd_none, wLd_2, wLd_3, wLd_32, ldP_cells, ldP_rom, cellP_one, getH_same, getH_ne, forceV_eq, forceN_eq, hsK_eq, Option.elim_some, List.getElem?_cons_zero, List.getElem?_cons_succ, Yld.val, decide_true, decide_false, if_true, if_false, Bool.false_eq_true, Nat.zero_add, Nat.add_zero, and_true, true_and, or_false, Bool.not_true, Bool.not_false, and_self, wBin_add64, wBin_sub64, wIdx_slice, wIdx_array, wNilc_eq, Int.toNat_natCast, Nat.mul_one, Nat.zero_mul, wSt_agg, wSt_int, wSt_bool, wSt_string, wSt_slice, wSt_ptr, wSt_map, wSt_func, stP_cells, bit_one, bit_zero, bit_one', bit_zero', wBin_shr32, wBin_and1, wBin_rem2, wBin_andNot32, wBin_or32, wBin_and32, wBin_shl32, u32_eq_zero, u32_ne_zero, List.length_cons, List.length_nil, Nat.le_refl, Nat.reduceAdd, Nat.reduceMul, Nat.reduceLeDiff, Int.toNat_zero, Int.toNat_one]
    by_cases hk : k < p.length
    · have hk' : (k : Int) < (p.length : Int) := by omega
      obtain ⟨b, o, row, rfl, hb1, hrow, hget⟩ := hS.open (i := 0) (by rw [i64s_length]; omega)
      have hy : p[k]? = some p[k] := List.getElem?_eq_getElem hk
      generalize p[k] = y at hy
      have hdk := drop_cons hy
      rw [hdk] at hc2
      simp only [less, List.countP_cons] at hc2
      by_cases hyx : y < x
      · have e1 : decide (y < x) = true := by simp [hyx]
        rw [e1] at hc2
        simp (disch := first | omega | assumption | exact shr_lt (by assumption) | exact ndiff32 (by assumption) | exact below_lt (by omega) | fail) only [List.getD_cons_zero, List.getD_cons_succ, wBin_lss, wBin_leq, wBin_gtr, wBin_geq, wBin_eql, wBin_neq, wIf_bool, wGuard_true, wGuard_false, wPick_true, wPick_false, wUn_not, wFld_eq, wExt_eq, wPart_one, wPart_agg, wLen_slice, wLen_string, wNew_eq, wNm_eq, dBox_agg, dBox_int, dBox_slice, dBox_string, dBox_bool, dBox_map, dBox_ptr, oneCells, wLd_none, wLd_2, wLd_3, wLd_32, ldP_cells, ldP_rom, cellP_one, getH_same, getH_ne, forceV_eq, forceN_eq, hsK_eq, Option.elim_some, List.getElem?_cons_zero, List.getElem?_cons_succ, Yld.val, decide_true, decide_false, if_true, if_false, Bool.false_eq_true, Nat.zero_add, Nat.add_zero, and_true, true_and, or_false, Bool.not_true, Bool.not_false, and_self, wBin_add64, wBin_sub64, wIdx_slice, wIdx_array, wNilc_eq, Int.toNat_natCast, Nat.mul_one, Nat.zero_mul, wSt_agg, wSt_int, wSt_bool, wSt_string, wSt_slice, wSt_ptr, wSt_map, wSt_func, stP_cells, bit_one, bit_zero, bit_one', bit_zero', wBin_shr32, wBin_and1, wBin_rem2, wBin_andNot32, wBin_or32, wBin_and32, wBin_shl32, u32_eq_zero, u32_ne_zero, List.length_cons, List.length_nil, Nat.le_refl, Nat.reduceAdd, Nat.reduceMul, Nat.reduceLeDiff, Int.toNat_zero, Int.toNat_one, wJoin_eq, hi', hk', ldP_row hrow, hget _ _ (i64s_get hx), hget _ _ (i64s_get hy), e1]
        refine hih2 (m2 - 1) _ _ _ (by omega) ⟨k + 1, c2 + 1, by omega, by simp, by omega, ?_, rfl, by omega⟩
        simp only [less]
        simp at hc2
        omega
      · have e1 : decide (y < x) = false := by simp [hyx]
        rw [e1] at hc2
        simp (disch := first | omega | assumption | exact shr_lt (by assumption) | exact ndiff32 (by assumption) | exact below_lt (by omega) | fail) only [List.getD_cons_zero, List.getD_cons_succ, wBin_lss, wBin_leq, wBin_gtr, wBin_geq, wBin_eql, wBin_neq, wIf_bool, wGuard_true, wGuard_false, wPick_true, wPick_false, wUn_not, wFld_eq, wExt_eq, wPart_one, wPart_agg, wLen_slice, wLen_string, wNew_eq, wNm_eq, dBox_agg, dBox_int, dBox_slice, dBox_string, dBox_bool, dBox_map, dBox_ptr, oneCells, wLd_none, wLd_2, wLd_3, wLd_32, ldP_cells, ldP_rom, cellP_one, getH_same, getH_ne, forceV_eq, forceN_eq, hsK_eq, Option.elim_some, List.getElem?_cons_zero, List.getElem?_cons_succ, Yld.val, decide_true, decide_false, if_true, if_false, Bool.false_eq_true, Nat.zero_add, Nat.add_zero, and_true, true_and, or_false, Bool.not_true, Bool.not_false, and_self, wBin_add64, wBin_sub64, wIdx_slice, wIdx_array, wNilc_eq, Int.toNat_natCast, Nat.mul_one, Nat.zero_mul, wSt_agg, wSt_int, wSt_bool, wSt_string, wSt_slice, wSt_ptr, wSt_map, wSt_func, stP_cells, bit_one, bit_zero, bit_one', bit_zero', wBin_shr32, wBin_and1, wBin_rem2, wBin_andNot32, wBin_or32, wBin_and32, wBin_shl32, u32_eq_zero, u32_ne_zero, List.length_cons, List.length_nil, Nat.le_refl, Nat.reduceAdd, Nat.reduceMul, Nat.reduceLeDiff, Int.toNat_zero, Int.toNat_one, wJoin_eq, hi', hk', ldP_row hrow, hget _ _ (i64s_get hx), hget _ _ (i64s_get hy), e1]
        refine hih2 (m2 - 1) _ _ _ (by omega) ⟨k + 1, c2, by omega, by simp, by omega, ?_, rfl, by omega⟩
        simp only [less]
        simp at hc2
        omega
    · have hk' : ¬ (k : Int) < (p.length : Int) := by omega
      simp (disch := first | omega | assumption | exact shr_lt (by assumption) | exact ndiff32 (by assumption) | exact below_lt (by omega) | fail) only [List.getD_cons_zero, List.getD_cons_succ, wBin_lss, wBin_leq, wBin_gtr, wBin_geq, wBin_eql, wBin_neq, wIf_bool, wGuard_true, wGuard_false, wPick_true, wPick_false, wUn_not, wFld_eq, wExt_eq, wPart_one, wPart_agg, wLen_slice, wLen_string, wNew_eq, wNm_eq, dBox_agg, dBox_int, dBox_slice, dBox_string, dBox_bool, dBox_map, dBox_ptr, oneCells, wLd_none, wLd_2, wLd_3, wLd_32, ldP_cells, ldP_rom, cellP_one, getH_same, getH_ne, forceV_eq, forceN_eq, hsK_eq, Option.elim_some, List.getElem?_cons_zero, List.getElem?_cons_succ, Yld.val, decide_true, decide_false, if_true, if_false, Bool.false_eq_true, Nat.zero_add, Nat.add_zero, and_true, true_and, or_false, Bool.not_true, Bool.not_false, and_self, wBin_add64, wBin_sub64, wIdx_slice, wIdx_array, wNilc_eq, Int.toNat_natCast, Nat.mul_one, Nat.zero_mul, wSt_agg, wSt_int, wSt_bool, wSt_string, wSt_slice, wSt_ptr, wSt_map, wSt_func, stP_cells, bit_one, bit_zero, bit_one', bit_zero', wBin_shr32, wBin_and1, wBin_rem2, wBin_andNot32, wBin_or32, wBin_and32, wBin_shl32, u32_eq_zero, u32_ne_zero, List.length_cons, List.length_nil, Nat.le_refl, Nat.reduceAdd, Nat.reduceMul, Nat.reduceLeDiff, Int.toNat_zero, Int.toNat_one, hk']
      refine hih (m - 1) _ _ _ (by omega) ⟨i + 1, c2, by omega, by simp, ?_, rfl, hn2⟩
      rw [List.drop_eq_nil_of_le (show p.length ≤ k by omega)] at hc2
      simp only [less, List.countP_nil] at hc2 hc
      omega
  · have hi' : ¬ (i : Int) < (p.length : Int) := by omega
    simp (disch := first | omega | assumption | exact shr_lt (by assumption) | exact ndiff32 (by assumption) | exact below_lt (by omega) | fail) only [List.getD_cons_zero, List.getD_cons_succ, wBin_lss, wBin_leq, wBin_gtr, wBin_geq, wBin_eql, wBin_neq, wIf_bool, wGuard_true, wGuard_false, wPick_true, wPick_false, wUn_not, wFld_eq, wExt_eq, wPart_one, wPart_agg, wLen_slice, wLen_string, wNew_eq, wNm_eq, dBox_agg, dBox_int, dBox_slice, dBox_string, dBox_bool, dBox_map, dBox_ptr, oneCells, wLd_none, wLd_2, wLd_3, wLd_32, ldP_cells, ldP_rom, cellP_one, getH_same, getH_ne, forceV_eq, forceN_eq, hsK_eq, Option.elim_some, List.getElem?_cons_zero, List.getElem?_cons_succ, Yld.val, decide_true, decide_false, if_true, if_false, Bool.false_eq_true, Nat.zero_add, Nat.add_zero, and_true, true_and, or_false, Bool.not_true, Bool.not_false, and_self, wBin_add64, wBin_sub64, wIdx_slice, wIdx_array, wNilc_eq, Int.toNat_natCast, Nat.mul_one, Nat.zero_mul, wSt_agg, wSt_int, wSt_bool, wSt_string, wSt_slice, wSt_ptr, wSt_map, wSt_func, stP_cells, bit_one, bit_zero, bit_one', bit_zero', wBin_shr32, wBin_and1, wBin_rem2, wBin_andNot32, wBin_or32, wBin_and32, wBin_shl32, u32_eq_zero, u32_ne_zero, List.length_cons, List.length_nil, Nat.le_refl, Nat.reduceAdd, Nat.reduceMul, Nat.reduceLeDiff, Int.toNat_zero, Int.toNat_one, hi']
    rw [List.drop_eq_nil_of_le (show p.length ≤ i by omega)] at hc
    simp only [inv] at hc
    exact ⟨by rw [← hc]; simp, hn1⟩

theorem R.le {w : Nat} {p f : List Int} {c : Nat} (h : R w p f c) : c ≤ inv p := by
  induction h with
  | last => exact Nat.le_refl _
  | cons _ _ _ _ ih => rw [inv_append]; omega
theorem pass_nil (w m : Nat) : passC w m ([] : List Int) = ([], 0) := by
  induction m with
  | zero => rfl
  | succ m ih => simp [passC, ih, merge_nil]
theorem set_mid {a b : List Int} {n : Nat} {v : Int} (h : a.length = n) (hb : b ≠ []) : (a ++ b).set n v = (a ++ [v]) ++ b.tail := by
  cases b with
  | nil => exact absurd rfl hb
  | cons y b => subst h; simp

theorem cast_sub (c lo la i : Nat) (h : i ≤ la) : (c : Int) + (((lo + la : Nat) : Int) - ((lo + i : Nat) : Int)) = ((c + (la - i) : Nat) : Int) := by omega
/-- The next one of two runs. -/
theorem merge_pick {f : List Int} {lo w la lb i k : Nat} (hla : ((f.drop lo).take w).length = la) (hlb : (((f.drop lo).drop w).take w).length = lb) (hi : i ≤ la) (hk : k ≤ lb) (hik : i + k < la + lb) :
    (∃ x, f[lo + i]? = some x ∧ i < la ∧ (k = lb ∨ (k < lb ∧ ∃ y, f[lo + la + k]? = some y ∧ x ≤ y)) ∧ mergeC (((f.drop lo).take w).drop i) ((((f.drop lo).drop w).take w).drop k) =
      (x :: (mergeC (((f.drop lo).take w).drop (i + 1)) ((((f.drop lo).drop w).take w).drop k)).1, (mergeC (((f.drop lo).take w).drop (i + 1)) ((((f.drop lo).drop w).take w).drop k)).2)) ∨
    (∃ y, f[lo + la + k]? = some y ∧ k < lb ∧ (i = la ∨ (i < la ∧ ∃ x, f[lo + i]? = some x ∧ ¬ x ≤ y)) ∧ mergeC (((f.drop lo).take w).drop i) ((((f.drop lo).drop w).take w).drop k) =
      (y :: (mergeC (((f.drop lo).take w).drop i) ((((f.drop lo).drop w).take w).drop (k + 1))).1, (mergeC (((f.drop lo).take w).drop i) ((((f.drop lo).drop w).take w).drop (k + 1))).2 + (la - i))) := by
  have ga : ∀ i, i < la → ∃ x, f[lo + i]? = some x ∧ ((f.drop lo).take w).drop i = x :: ((f.drop lo).take w).drop (i + 1) := fun i hi => by
    have h1 : ((f.drop lo).take w)[i]? = some (((f.drop lo).take w)[i]'(by omega)) := List.getElem?_eq_getElem (by omega)
    generalize (((f.drop lo).take w)[i]'(by omega)) = x at h1
    refine ⟨x, ?_, drop_cons h1⟩
    rw [List.getElem?_take] at h1
    split at h1
    · rw [List.getElem?_drop] at h1; exact h1
    · cases h1
  have gb : ∀ k, k < lb → ∃ y, f[lo + la + k]? = some y ∧ (((f.drop lo).drop w).take w).drop k = y :: (((f.drop lo).drop w).take w).drop (k + 1) := fun k hk => by
    have h1 : (((f.drop lo).drop w).take w)[k]? = some ((((f.drop lo).drop w).take w)[k]'(by omega)) := List.getElem?_eq_getElem (by omega)
    generalize ((((f.drop lo).drop w).take w)[k]'(by omega)) = y at h1
    have hlw : la = w := by
      have : 0 < (((f.drop lo).drop w).take w).length := by omega
      simp only [List.length_take, List.length_drop] at this hla
      omega
    refine ⟨y, ?_, drop_cons h1⟩
    rw [List.getElem?_take] at h1
    split at h1
    · rw [List.getElem?_drop, List.getElem?_drop] at h1
      rw [← h1, hlw]; congr 1; omega
    · cases h1
  have hda : ∀ i, i ≤ la → (((f.drop lo).take w).drop i).length = la - i := fun i _ => by rw [List.length_drop, hla]
  by_cases h1 : i < la
  · obtain ⟨x, hx, ex⟩ := ga i h1
    by_cases h2 : k = lb
    · refine .inl ⟨x, hx, h1, .inl h2, ?_⟩
      have : (((f.drop lo).drop w).take w).drop k = [] := List.drop_eq_nil_of_le (by omega)
      rw [this, ex, merge_nil', merge_nil']
    · obtain ⟨y, hy, ey⟩ := gb k (by omega)
      by_cases h3 : x ≤ y
      · refine .inl ⟨x, hx, h1, .inr ⟨by omega, y, hy, h3⟩, ?_⟩
        rw [ex, ey, merge_le h3]
      · refine .inr ⟨y, hy, by omega, .inr ⟨h1, x, hx, h3⟩, ?_⟩
        have := hda i hi
        rw [ex, List.length_cons] at this
        rw [ex, ey, merge_gt h3, this]
  · obtain ⟨y, hy, ey⟩ := gb k (by omega)
    refine .inr ⟨y, hy, by omega, .inl (by omega), ?_⟩
    have : ((f.drop lo).take w).drop i = [] := List.drop_eq_nil_of_le (by omega)
    rw [this, ey, merge_nil, merge_nil]
    simp; omega

set_option maxHeartbeats 8000000 in
theorem inv14 (A : Option Addr) (p : List Int) (cap : Nat) (H : Heap) (nx : Nat) (hS : Sl H nx A (i64s p)) (hA0 : Has H nx A) (hl : p.length ≤ 1000) :
    Ans Tryz.prog 14 [.slice A p.length cap] H nx fun r H' nx' => .int .i64 (inv p : Nat) = r ∧ Ext H nx H' nx' := by
  refine spec14 ?_
  unfold F14
  have hinv := inv_le p
  have hsq : p.length * p.length ≤ 1000000 := Nat.mul_le_mul hl hl
  have hX0 : Ext H nx H (nx + 7) := Ext.self (by omega)
  simp (disch := first | omega | assumption | exact shr_lt (by assumption) | exact ndiff32 (by assumption) | exact below_lt (by omega) | fail) only [List.getD_cons_zero, List.getD_cons_succ, wBin_lss, wBin_leq, wBin_gtr, wBin_geq, wBin_eql, wBin_neq, wIf_bool, wGuard_true, wGuard_false, wPick_true, wPick_false, wUn_not, wFld_eq, wExt_eq, wPart_one, wPart_agg, wLen_slice, wLen_string, wNew_eq, wNm_eq, dBox_agg, dBox_int, dBox_slice, dBox_string, dBox_bool, dBox_map, dBox_ptr, oneCells, wLd_none, wLd_2, wLd_3, wLd_32, ldP_cells, ldP_rom, cellP_one, getH_same, getH_ne, forceV_eq, forceN_eq, hsK_eq, Option.elim_some, List.getElem?_cons_zero, List.getElem?_cons_succ, Yld.val, decide_true, decide_false, if_true, if_false, Bool.false_eq_true, Nat.zero_add, Nat.add_zero, and_true, true_and, or_false, Bool.not_true, Bool.not_false, and_self, wBin_add64, wBin_sub64, wIdx_slice, wIdx_array, wNilc_eq, Int.toNat_natCast, Nat.mul_one, Nat.zero_mul, wSt_agg, wSt_int, wSt_bool, wSt_string, wSt_slice, wSt_ptr, wSt_map, wSt_func, stP_cells, bit_one, bit_zero, bit_one', bit_zero', wBin_shr32, wBin_and1, wBin_rem2, wBin_andNot32, wBin_or32, wBin_and32, wBin_shl32, u32_eq_zero, u32_ne_zero, List.length_cons, List.length_nil, Nat.le_refl, Nat.reduceAdd, Nat.reduceMul, Nat.reduceLeDiff, Int.toNat_zero, Int.toNat_one]
  refine wCall_rule (clone32 A p cap H (nx + 7) (hS.ext hX0) (hA0.ext hX0) hl) ?_
  rintro _ H2 n2 ⟨⟨A', rfl, hq⟩, hE2⟩
  have hn2 := hE2.le
  have hE02 := hX0.trans hE2
  simp (disch := first | omega | assumption | exact shr_lt (by assumption) | exact ndiff32 (by assumption) | exact below_lt (by omega) | fail) only [List.getD_cons_zero, List.getD_cons_succ, wBin_lss, wBin_leq, wBin_gtr, wBin_geq, wBin_eql, wBin_neq, wIf_bool, wGuard_true, wGuard_false, wPick_true, wPick_false, wUn_not, wFld_eq, wExt_eq, wPart_one, wPart_agg, wLen_slice, wLen_string, wNew_eq, wNm_eq, dBox_agg, dBox_int, dBox_slice, dBox_string, dBox_bool, dBox_map, dBox_ptr, oneCells, wLd_none, wLd_2, wLd_3, wLd_32, ldP_cells, ldP_rom, cellP_one, getH_same, getH_ne, forceV_eq, forceN_eq, hsK_eq, Option.elim_some, List.getElem?_cons_zero, List.getElem?_cons_succ, Yld.val, decide_true, decide_false, if_true, if_false, Bool.false_eq_true, Nat.zero_add, Nat.add_zero, and_true, true_and, or_false, Bool.not_true, Bool.not_false, and_self, wBin_add64, wBin_sub64, wIdx_slice, wIdx_array, wNilc_eq, Int.toNat_natCast, Nat.mul_one, Nat.zero_mul, wSt_agg, wSt_int, wSt_bool, wSt_string, wSt_slice, wSt_ptr, wSt_map, wSt_func, stP_cells, bit_one, bit_zero, bit_one', bit_zero', wBin_shr32, wBin_and1, wBin_rem2, wBin_andNot32, wBin_or32, wBin_and32, wBin_shl32, u32_eq_zero, u32_ne_zero, List.length_cons, List.length_nil, Nat.le_refl, Nat.reduceAdd, Nat.reduceMul, Nat.reduceLeDiff, Int.toNat_zero, Int.toNat_one, dMsl_ints (show p.length ≤ 1000000 by omega)]
  by_cases hp0 : p = []
  · subst hp0
    refine wLoop_rule (fun m L H' nx' => L = [.slice A' 0 0, .slice (some ⟨nx + 4, 0, none⟩) 0 0, .int .i64 0, .int .i64 1] ∧ Ext H nx H' nx') ?_ (m := 0) ⟨rfl, hE02.new _ (by omega) (Nat.le_refl _)⟩
    rintro m ih L H3 n3 ⟨rfl, hE3⟩ hih
    have d : ¬ (1 : Int) < ((0 : Nat) : Int) := by decide
    simp (disch := first | omega | assumption | exact shr_lt (by assumption) | exact ndiff32 (by assumption) | exact below_lt (by omega) | fail) only [List.getD_cons_zero, List.getD_cons_succ, wBin_lss, wBin_leq, wBin_gtr, wBin_geq, wBin_eql, wBin_neq, wIf_bool, wGuard_true, wGuard_false, wPick_true, wPick_false, wUn_not, wFld_eq, wExt_eq, wPart_one, wPart_agg, wLen_slice, wLen_string, wNew_eq, wNm_eq, dBox_agg, dBox_int, dBox_slice, dBox_string, dBox_bool, dBox_map, dBox_ptr, oneCells, wLd_none, wLd_2, wLd_3, wLd_32, ldP_cells, ldP_rom, cellP_one, getH_same, getH_ne, forceV_eq, forceN_eq, hsK_eq, Option.elim_some, List.getElem?_cons_zero, List.getElem?_cons_succ, Yld.val, decide_true, decide_false, if_true, if_false, Bool.false_eq_true, Nat.zero_add, Nat.add_zero, and_true, true_and, or_false, Bool.not_true, Bool.not_false, and_self, wBin_add64, wBin_sub64, wIdx_slice, wIdx_array, wNilc_eq, Int.toNat_natCast, Nat.mul_one, Nat.zero_mul, wSt_agg, wSt_int, wSt_bool, wSt_string, wSt_slice, wSt_ptr, wSt_map, wSt_func, stP_cells, bit_one, bit_zero, bit_one', bit_zero', wBin_shr32, wBin_and1, wBin_rem2, wBin_andNot32, wBin_or32, wBin_and32, wBin_shl32, u32_eq_zero, u32_ne_zero, List.length_cons, List.length_nil, Nat.le_refl, Nat.reduceAdd, Nat.reduceMul, Nat.reduceLeDiff, Int.toNat_zero, Int.toNat_one, d]
    exact ⟨rfl, hE3⟩
  obtain ⟨q, rfl, hq1, hq2, hgq⟩ := hq hp0
  have hpos : 0 < p.length := List.length_pos_iff.2 hp0
  obtain ⟨n, hn⟩ : ∃ n, p.length = n := ⟨_, rfl⟩
  rw [hn]
  rw [hn] at hl hinv hsq hpos
  refine wLoop_rule (fun m L H' nx' => ∃ (w c bf bt sf st : Nat) (f t : List Int), m + w = 2 * n + 1 ∧ L = [.slice (some ⟨bf, 0, none⟩) n n, .slice (some ⟨bt, 0, none⟩) n n, .int .i64 (c : Int), .int .i64 (w : Int)] ∧ 1 ≤ w ∧ R w p f c ∧ t.length = n ∧ bf ≠ bt ∧ nx ≤ bf ∧ nx ≤ bt ∧ bf < nx' ∧ bt < nx' ∧
      getH H' bf = some (.cells (i64s f) sf) ∧ getH H' bt = some (.cells (i64s t) st) ∧ Ext H nx H' nx') ?_ (m := 2 * n) ⟨1, 0, q, nx + 4, 1, 0, p, List.replicate n 0, by omega, rfl, Nat.le_refl _, R.one p, by simp, by omega, by omega, by omega, hq2, by omega, by rw [getH_ne _ (by omega)]; exact hgq, by rw [getH_same], hE02.new _ (by omega) (Nat.le_refl _)⟩
  rintro m ih L H4 n4 ⟨w, c, bf, bt, sf, st, f, t, hm, rfl, hw, hR, htl, hne, hbf, hbt, hbf2, hbt2, hgf, hgt, hE4⟩ hih
  have hfl : f.length = n := hR.length.trans hn
  have hRp := hR.pass hw n (by rw [hfl]; exact Nat.le_trans (by omega) (Nat.mul_le_mul_left n (show 1 ≤ 2 * w by omega)))
  have hcap := R.le hRp
  simp (disch := first | omega | assumption | exact shr_lt (by assumption) | exact ndiff32 (by assumption) | exact below_lt (by omega) | fail) only [List.getD_cons_zero, List.getD_cons_succ, wBin_lss, wBin_leq, wBin_gtr, wBin_geq, wBin_eql, wBin_neq, wIf_bool, wGuard_true, wGuard_false, wPick_true, wPick_false, wUn_not, wFld_eq, wExt_eq, wPart_one, wPart_agg, wLen_slice, wLen_string, wNew_eq, wNm_eq, dBox_agg, dBox_int, dBox_slice, dBox_string, dBox_bool, dBox_map, dBox_ptr, oneCells, wLd_none, wLd_2, wLd_3, wLd_32, ldP_cells, ldP_rom, cellP_one, getH_same, getH_ne, forceV_eq, forceN_eq, hsK_eq, Option.elim_some, List.getElem?_cons_zero, List.getElem?_cons_succ, Yld.val, decide_true, decide_false, if_true, if_false, Bool.false_eq_true, Nat.zero_add, Nat.add_zero, and_true, true_and, or_false, Bool.not_true, Bool.not_false, and_self, wBin_add64, wBin_sub64, wIdx_slice, wIdx_array, wNilc_eq, Int.toNat_natCast, Nat.mul_one, Nat.zero_mul, wSt_agg, wSt_int, wSt_bool, wSt_string, wSt_slice, wSt_ptr, wSt_map, wSt_func, stP_cells, bit_one, bit_zero, bit_one', bit_zero', wBin_shr32, wBin_and1, wBin_rem2, wBin_andNot32, wBin_or32, wBin_and32, wBin_shl32, u32_eq_zero, u32_ne_zero, List.length_cons, List.length_nil, Nat.le_refl, Nat.reduceAdd, Nat.reduceMul, Nat.reduceLeDiff, Int.toNat_zero, Int.toNat_one]
  by_cases hwn : w < n
  · have hwn' : (w : Int) < (n : Int) := by omega
    simp (disch := first | omega | assumption | exact shr_lt (by assumption) | exact ndiff32 (by assumption) | exact below_lt (by omega) | fail) only [List.getD_cons_zero, List.getD_cons_succ, wBin_lss, wBin_leq, wBin_gtr, wBin_geq, wBin_eql, wBin_neq, wIf_bool, wGuard_true, wGuard_false, wPick_true, wPick_false, wUn_not, wFld_eq, wExt_eq, wPart_one, wPart_agg, wLen_slice, wLen_string, wNew_eq, wNm_eq, dBox_agg, dBox_int, dBox_slice, dBox_string, dBox_bool, dBox_map, dBox_ptr, oneCells, wLd_none, wLd_2, wLd_3, wLd_32, ldP_cells, ldP_rom, cellP_one, getH_same, getH_ne, forceV_eq, forceN_eq, hsK_eq, Option.elim_some, List.getElem?_cons_zero, List.getElem?_cons_succ, Yld.val, decide_true, decide_false, if_true, if_false, Bool.false_eq_true, Nat.zero_add, Nat.add_zero, and_true, true_and, or_false, Bool.not_true, Bool.not_false, and_self, wBin_add64, wBin_sub64, wIdx_slice, wIdx_array, wNilc_eq, Int.toNat_natCast, Nat.mul_one, Nat.zero_mul, wSt_agg, wSt_int, wSt_bool, wSt_string, wSt_slice, wSt_ptr, wSt_map, wSt_func, stP_cells, bit_one, bit_zero, bit_one', bit_zero', wBin_shr32, wBin_and1, wBin_rem2, wBin_andNot32, wBin_or32, wBin_and32, wBin_shl32, u32_eq_zero, u32_ne_zero, List.length_cons, List.length_nil, Nat.le_refl, Nat.reduceAdd, Nat.reduceMul, Nat.reduceLeDiff, Int.toNat_zero, Int.toNat_one, hwn']
    refine wLoop_rule (fun m2 L2 H' nx' => ∃ (j c1 : Nat) (dn t2 : List Int), m2 + j = n ∧ L2 = [.int .i64 (c1 : Int), .int .i64 ((2 * w * j : Nat) : Int)] ∧ dn.length = min (2 * w * j) n ∧ (dn ++ t2).length = n ∧
        (passC w n f).1 = dn ++ (passC w (n - j) (f.drop (2 * w * j))).1 ∧ c1 + (passC w (n - j) (f.drop (2 * w * j))).2 = c + (passC w n f).2 ∧ bf < nx' ∧ bt < nx' ∧
        getH H' bf = some (.cells (i64s f) sf) ∧ getH H' bt = some (.cells (i64s (dn ++ t2)) st) ∧ Ext H nx H' nx') ?_ (m := n) ⟨0, c, [], t, by omega, by simp, by simp, by simpa using htl, by simp, by simp, hbf2, hbt2, hgf, by simpa using hgt, hE4⟩
    rintro m2 ih2 L2 H5 n5 ⟨j, c1, dn, t2, hm2, rfl, hdn, htt, hp1, hp2, hbf5, hbt5, hgf5, hgt5, hE5⟩ hih2
    have hlo2 : 2 * w * (j + 1) = 2 * w * j + 2 * w := by rw [Nat.mul_add, Nat.mul_one]
    have hjle : j ≤ 2 * w * j := Nat.le_mul_of_pos_left j (by omega)
    obtain ⟨lo, hlo⟩ : ∃ lo, 2 * w * j = lo := ⟨_, rfl⟩
    rw [hlo] at hdn hp1 hp2 hlo2 hjle
    rw [hlo]
    simp (disch := first | omega | assumption | exact shr_lt (by assumption) | exact ndiff32 (by assumption) | exact below_lt (by omega) | fail) only [List.getD_cons_zero, List.getD_cons_succ, wBin_lss, wBin_leq, wBin_gtr, wBin_geq, wBin_eql, wBin_neq, wIf_bool, wGuard_true, wGuard_false, wPick_true, wPick_false, wUn_not, wFld_eq, wExt_eq, wPart_one, wPart_agg, wLen_slice, wLen_string, wNew_eq, wNm_eq, dBox_agg, dBox_int, dBox_slice, dBox_string, dBox_bool, dBox_map, dBox_ptr, oneCells, wLd_none, wLd_2, wLd_3, wLd_32, ldP_cells, ldP_rom, cellP_one, getH_same, getH_ne, forceV_eq, forceN_eq, hsK_eq, Option.elim_some, List.getElem?_cons_zero, List.getElem?_cons_succ, Yld.val, decide_true, decide_false, if_true, if_false, Bool.false_eq_true, Nat.zero_add, Nat.add_zero, and_true, true_and, or_false, Bool.not_true, Bool.not_false, and_self, wBin_add64, wBin_sub64, wIdx_slice, wIdx_array, wNilc_eq, Int.toNat_natCast, Nat.mul_one, Nat.zero_mul, wSt_agg, wSt_int, wSt_bool, wSt_string, wSt_slice, wSt_ptr, wSt_map, wSt_func, stP_cells, bit_one, bit_zero, bit_one', bit_zero', wBin_shr32, wBin_and1, wBin_rem2, wBin_andNot32, wBin_or32, wBin_and32, wBin_shl32, u32_eq_zero, u32_ne_zero, List.length_cons, List.length_nil, Nat.le_refl, Nat.reduceAdd, Nat.reduceMul, Nat.reduceLeDiff, Int.toNat_zero, Int.toNat_one]
    by_cases hlon : lo < n
    · have hlon' : (lo : Int) < (n : Int) := by omega
      obtain ⟨r, hr⟩ : ∃ r, n - j = r + 1 := ⟨n - j - 1, by omega⟩
      rw [hr, passC] at hp1 hp2
      dsimp only at hp1 hp2
      have hdd : (f.drop lo).drop (2 * w) = f.drop (lo + 2 * w) := by rw [List.drop_drop]
      rw [hdd] at hp1 hp2
      obtain ⟨la, hla⟩ : ∃ la, ((f.drop lo).take w).length = la := ⟨_, rfl⟩
      obtain ⟨lb, hlb⟩ : ∃ lb, (((f.drop lo).drop w).take w).length = lb := ⟨_, rfl⟩
      have hla' : la = min w (n - lo) := by rw [← hla, List.length_take, List.length_drop, hfl]
      have hlb' : lb = min w (n - lo - w) := by rw [← hlb, List.length_take, List.length_drop, List.length_drop, hfl]
      have hmid : min (lo + w) n = lo + la := by omega
      have hhi : min (lo + 2 * w) n = lo + la + lb := by omega
      have e1 : (lo : Int) + (w : Int) = ((lo + w : Nat) : Int) := by omega
      have e2 : (2 : Int) * (w : Int) = ((2 * w : Nat) : Int) := by omega
      have e3 : (lo : Int) + ((2 * w : Nat) : Int) = ((lo + 2 * w : Nat) : Int) := by omega
      have m2w := fun k => wBin_mul64 (a := 2) (b := (w : Int)) k (by omega) (by omega)
      simp (disch := first | omega | assumption | exact shr_lt (by assumption) | exact ndiff32 (by assumption) | exact below_lt (by omega) | fail) only [List.getD_cons_zero, List.getD_cons_succ, wBin_lss, wBin_leq, wBin_gtr, wBin_geq, wBin_eql, wBin_neq, wIf_bool, wGuard_true, wGuard_false, wPick_true, wPick_false, wUn_not, wFld_eq, wExt_eq, wPart_one, wPart_agg, wLen_slice, wLen_string, wNew_eq, wNm_eq, dBox_agg, dBox_int, dBox_slice, dBox_string, dBox_bool, dBox_map, dBox_ptr, oneCells, wLd_none, wLd_2, wLd_3, wLd_32, ldP_cells, ldP_rom, cellP_one, getH_same, getH_ne, forceV_eq, forceN_eq, hsK_eq, Option.elim_some, List.getElem?_cons_zero, List.getElem?_cons_succ, Yld.val, decide_true, decide_false, if_true, if_false, Bool.false_eq_true, Nat.zero_add, Nat.add_zero, and_true, true_and, or_false, Bool.not_true, Bool.not_false, and_self, wBin_add64, wBin_sub64, wIdx_slice, wIdx_array, wNilc_eq, Int.toNat_natCast, Nat.mul_one, Nat.zero_mul, wSt_agg, wSt_int, wSt_bool, wSt_string, wSt_slice, wSt_ptr, wSt_map, wSt_func, stP_cells, bit_one, bit_zero, bit_one', bit_zero', wBin_shr32, wBin_and1, wBin_rem2, wBin_andNot32, wBin_or32, wBin_and32, wBin_shl32, u32_eq_zero, u32_ne_zero, List.length_cons, List.length_nil, Nat.le_refl, Nat.reduceAdd, Nat.reduceMul, Nat.reduceLeDiff, Int.toNat_zero, Int.toNat_one, hlon', e1, wVf_minN, hmid, m2w, e2, e3, hhi]
      refine wLoop_rule (fun m3 L3 H' nx' => ∃ (i k c2 : Nat) (m1 t3 : List Int), m3 + (i + k) = la + lb ∧ L3 = [.int .i64 (c2 : Int), .int .i64 ((lo + i : Nat) : Int), .int .i64 ((lo + la + k : Nat) : Int), .int .i64 ((lo + i + k : Nat) : Int)] ∧ i ≤ la ∧ k ≤ lb ∧ m1.length = i + k ∧ (dn ++ m1 ++ t3).length = n ∧
          (mergeC ((f.drop lo).take w) (((f.drop lo).drop w).take w)).1 = m1 ++ (mergeC (((f.drop lo).take w).drop i) ((((f.drop lo).drop w).take w).drop k)).1 ∧ c2 + (mergeC (((f.drop lo).take w).drop i) ((((f.drop lo).drop w).take w).drop k)).2 = c1 + (mergeC ((f.drop lo).take w) (((f.drop lo).drop w).take w)).2 ∧
          bf < nx' ∧ bt < nx' ∧ getH H' bf = some (.cells (i64s f) sf) ∧ getH H' bt = some (.cells (i64s (dn ++ m1 ++ t3)) st) ∧ Ext H nx H' nx') ?_ (m := la + lb) ⟨0, 0, c1, [], t2, by omega, by simp, by omega, by omega, by simp, by simpa using htt, by simp, by simp, hbf5, hbt5, hgf5, by simpa using hgt5, hE5⟩
      rintro m3 ih3 L3 H6 n6 ⟨i, k, c2, m1, t3, hm3, rfl, hi, hk, hm1, htt3, hq1, hq2, hbf6, hbt6, hgf6, hgt6, hE6⟩ hih3
      have hdl : dn.length = lo := by omega
      simp (disch := first | omega | assumption | exact shr_lt (by assumption) | exact ndiff32 (by assumption) | exact below_lt (by omega) | fail) only [List.getD_cons_zero, List.getD_cons_succ, wBin_lss, wBin_leq, wBin_gtr, wBin_geq, wBin_eql, wBin_neq, wIf_bool, wGuard_true, wGuard_false, wPick_true, wPick_false, wUn_not, wFld_eq, wExt_eq, wPart_one, wPart_agg, wLen_slice, wLen_string, wNew_eq, wNm_eq, dBox_agg, dBox_int, dBox_slice, dBox_string, dBox_bool, dBox_map, dBox_ptr, oneCells, wLd_none, wLd_2, wLd_3, wLd_32, ldP_cells, ldP_rom, cellP_one, getH_same, getH_ne, forceV_eq, forceN_eq, hsK_eq, Option.elim_some, List.getElem?_cons_zero, List.getElem?_cons_succ, Yld.val, decide_true, decide_false, if_true, if_false, Bool.false_eq_true, Nat.zero_add, Nat.add_zero, and_true, true_and, or_false, Bool.not_true, Bool.not_false, and_self, wBin_add64, wBin_sub64, wIdx_slice, wIdx_array, wNilc_eq, Int.toNat_natCast, Nat.mul_one, Nat.zero_mul, wSt_agg, wSt_int, wSt_bool, wSt_string, wSt_slice, wSt_ptr, wSt_map, wSt_func, stP_cells, bit_one, bit_zero, bit_one', bit_zero', wBin_shr32, wBin_and1, wBin_rem2, wBin_andNot32, wBin_or32, wBin_and32, wBin_shl32, u32_eq_zero, u32_ne_zero, List.length_cons, List.length_nil, Nat.le_refl, Nat.reduceAdd, Nat.reduceMul, Nat.reduceLeDiff, Int.toNat_zero, Int.toNat_one]
      by_cases hat : i + k < la + lb
      · have hat' : ((lo + i + k : Nat) : Int) < ((lo + la + lb : Nat) : Int) := by omega
        have ht3 : t3 ≠ [] := fun e => by
          subst e
          simp only [List.length_append, List.length_nil] at htt3
          omega
        have hset : ∀ v : Int, putL (i64s (dn ++ m1 ++ t3)) (lo + i + k) [.int .i64 v] = i64s (dn ++ (m1 ++ [v]) ++ t3.tail) := fun v => by
          rw [putL_i64s (by omega), set_mid (by simp; omega) ht3]
          simp
        have htl3 : ∀ v : Int, (dn ++ (m1 ++ [v]) ++ t3.tail).length = n := fun v => by
          have : t3.length = t3.tail.length + 1 := by cases t3 with | nil => exact absurd rfl ht3 | cons => simp
          simp only [List.length_append, List.length_cons, List.length_nil] at htt3 ⊢
          omega
        have hlen6 : (i64s (dn ++ m1 ++ t3)).length = n := by rw [i64s_length]; exact htt3
        rcases merge_pick hla hlb hi hk hat with ⟨x, hx, hi1, hcond, hmer⟩ | ⟨y, hy, hk1, hcond, hmer⟩
        · rw [hmer] at hq1 hq2
          dsimp only at hq1 hq2
          have d1 : ((lo + i : Nat) : Int) < ((lo + la : Nat) : Int) := by omega
          have hxl : lo + i < n := by have := (List.getElem?_eq_some_iff.1 hx).1; omega
          simp (disch := first | omega | assumption | exact shr_lt (by assumption) | exact ndiff32 (by assumption) | exact below_lt (by omega) | fail) only [List.getD_cons_zero, List.getD_cons_succ, wBin_lss, wBin_leq, wBin_gtr, wBin_geq, wBin_eql, wBin_neq, wIf_bool, wGuard_true, wGuard_false, wPick_true, wPick_false, wUn_not, wFld_eq, wExt_eq, wPart_one, wPart_agg, wLen_slice, wLen_string, wNew_eq, wNm_eq, dBox_agg, dBox_int, dBox_slice, dBox_string, dBox_bool, dBox_map, dBox_ptr, oneCells, wLd_none, wLd_2, wLd_3, wLd_32, ldP_cells, ldP_rom, cellP_one, getH_same, getH_ne, forceV_eq, forceN_eq, hsK_eq, Option.elim_some, List.getElem?_cons_zero, List.getElem?_cons_succ, Yld.val, decide_true, decide_false, if_true, if_false, Bool.false_eq_true, Nat.zero_add, Nat.add_zero, and_true, true_and, or_false, Bool.not_true, Bool.not_false, and_self, wBin_add64, wBin_sub64, wIdx_slice, wIdx_array, wNilc_eq, Int.toNat_natCast, Nat.mul_one, Nat.zero_mul, wSt_agg, wSt_int, wSt_bool, wSt_string, wSt_slice, wSt_ptr, wSt_map, wSt_func, stP_cells, bit_one, bit_zero, bit_one', bit_zero', wBin_shr32, wBin_and1, wBin_rem2, wBin_andNot32, wBin_or32, wBin_and32, wBin_shl32, u32_eq_zero, u32_ne_zero, List.length_cons, List.length_nil, Nat.le_refl, Nat.reduceAdd, Nat.reduceMul, Nat.reduceLeDiff, Int.toNat_zero, Int.toNat_one, hat']
          refine wJoin_rule (fun L' H' nx' => L' = [.int .i64 (c2 : Int), .int .i64 ((lo + (i + 1) : Nat) : Int), .int .i64 ((lo + la + k : Nat) : Int)] ∧ Go.Clo.hs H6 bt (some (.cells (i64s (dn ++ (m1 ++ [x]) ++ t3.tail)) st)) = H' ∧ n6 ≤ nx') ?_ ?_
          · intro jj hjj
            refine wJoin_rule (fun L' H' nx' => L' = [.bool true] ∧ H6 = H' ∧ n6 ≤ nx') ?_ ?_
            · intro j2 hj2
              rcases hcond with h2 | ⟨h2, y, hy, hxy⟩
              · have d2 : decide (((lo + la + k : Nat) : Int) = ((lo + la + lb : Nat) : Int)) = true := by simp; omega
                simp (disch := first | omega | assumption | exact shr_lt (by assumption) | exact ndiff32 (by assumption) | exact below_lt (by omega) | fail) only [List.getD_cons_zero, List.getD_cons_succ, wBin_lss, wBin_leq, wBin_gtr, wBin_geq, wBin_eql, wBin_neq, wIf_bool, wGuard_true, wGuard_false, wPick_true, wPick_false, wUn_not, wFld_eq, wExt_eq, wPart_one, wPart_agg, wLen_slice, wLen_string, wNew_eq, wNm_eq, dBox_agg, dBox_int, dBox_slice, dBox_string, dBox_bool, dBox_map, dBox_ptr, oneCells, wLd_none, wLd_2, wLd_3, wLd_32, ldP_cells, ldP_rom, cellP_one, getH_same, getH_ne, forceV_eq, forceN_eq, hsK_eq, Option.elim_some, List.getElem?_cons_zero, List.getElem?_cons_succ, Yld.val, decide_true, decide_false, if_true, if_false, Bool.false_eq_true, Nat.zero_add, Nat.add_zero, and_true, true_and, or_false, Bool.not_true, Bool.not_false, and_self, wBin_add64, wBin_sub64, wIdx_slice, wIdx_array, wNilc_eq, Int.toNat_natCast, Nat.mul_one, Nat.zero_mul, wSt_agg, wSt_int, wSt_bool, wSt_string, wSt_slice, wSt_ptr, wSt_map, wSt_func, stP_cells, bit_one, bit_zero, bit_one', bit_zero', wBin_shr32, wBin_and1, wBin_rem2, wBin_andNot32, wBin_or32, wBin_and32, wBin_shl32, u32_eq_zero, u32_ne_zero, List.length_cons, List.length_nil, Nat.le_refl, Nat.reduceAdd, Nat.reduceMul, Nat.reduceLeDiff, Int.toNat_zero, Int.toNat_one, d1, d2]
                exact hj2 _ _ _ ⟨rfl, rfl, by omega⟩
              · have d2 : decide (((lo + la + k : Nat) : Int) = ((lo + la + lb : Nat) : Int)) = false := by simp; omega
                have d3 : decide (x ≤ y) = true := by simp [hxy]
                have hyl : lo + la + k < n := by have := (List.getElem?_eq_some_iff.1 hy).1; omega
                simp (disch := first | omega | assumption | exact shr_lt (by assumption) | exact ndiff32 (by assumption) | exact below_lt (by omega) | fail) only [List.getD_cons_zero, List.getD_cons_succ, wBin_lss, wBin_leq, wBin_gtr, wBin_geq, wBin_eql, wBin_neq, wIf_bool, wGuard_true, wGuard_false, wPick_true, wPick_false, wUn_not, wFld_eq, wExt_eq, wPart_one, wPart_agg, wLen_slice, wLen_string, wNew_eq, wNm_eq, dBox_agg, dBox_int, dBox_slice, dBox_string, dBox_bool, dBox_map, dBox_ptr, oneCells, wLd_none, wLd_2, wLd_3, wLd_32, ldP_cells, ldP_rom, cellP_one, getH_same, getH_ne, forceV_eq, forceN_eq, hsK_eq, Option.elim_some, List.getElem?_cons_zero, List.getElem?_cons_succ, Yld.val, decide_true, decide_false, if_true, if_false, Bool.false_eq_true, Nat.zero_add, Nat.add_zero, and_true, true_and, or_false, Bool.not_true, Bool.not_false, and_self, wBin_add64, wBin_sub64, wIdx_slice, wIdx_array, wNilc_eq, Int.toNat_natCast, Nat.mul_one, Nat.zero_mul, wSt_agg, wSt_int, wSt_bool, wSt_string, wSt_slice, wSt_ptr, wSt_map, wSt_func, stP_cells, bit_one, bit_zero, bit_one', bit_zero', wBin_shr32, wBin_and1, wBin_rem2, wBin_andNot32, wBin_or32, wBin_and32, wBin_shl32, u32_eq_zero, u32_ne_zero, List.length_cons, List.length_nil, Nat.le_refl, Nat.reduceAdd, Nat.reduceMul, Nat.reduceLeDiff, Int.toNat_zero, Int.toNat_one, d1, d2, hgf6, i64s_get hx, i64s_get hy, d3]
                exact hj2 _ _ _ ⟨rfl, rfl, by omega⟩
            rintro _ _ n8 ⟨rfl, rfl, hn8⟩
            simp (disch := first | omega | assumption | exact shr_lt (by assumption) | exact ndiff32 (by assumption) | exact below_lt (by omega) | fail) only [List.getD_cons_zero, List.getD_cons_succ, wBin_lss, wBin_leq, wBin_gtr, wBin_geq, wBin_eql, wBin_neq, wIf_bool, wGuard_true, wGuard_false, wPick_true, wPick_false, wUn_not, wFld_eq, wExt_eq, wPart_one, wPart_agg, wLen_slice, wLen_string, wNew_eq, wNm_eq, dBox_agg, dBox_int, dBox_slice, dBox_string, dBox_bool, dBox_map, dBox_ptr, oneCells, wLd_none, wLd_2, wLd_3, wLd_32, ldP_cells, ldP_rom, cellP_one, getH_same, getH_ne, forceV_eq, forceN_eq, hsK_eq, Option.elim_some, List.getElem?_cons_zero, List.getElem?_cons_succ, Yld.val, decide_true, decide_false, if_true, if_false, Bool.false_eq_true, Nat.zero_add, Nat.add_zero, and_true, true_and, or_false, Bool.not_true, Bool.not_false, and_self, wBin_add64, wBin_sub64, wIdx_slice, wIdx_array, wNilc_eq, Int.toNat_natCast, Nat.mul_one, Nat.zero_mul, wSt_agg, wSt_int, wSt_bool, wSt_string, wSt_slice, wSt_ptr, wSt_map, wSt_func, stP_cells, bit_one, bit_zero, bit_one', bit_zero', wBin_shr32, wBin_and1, wBin_rem2, wBin_andNot32, wBin_or32, wBin_and32, wBin_shl32, u32_eq_zero, u32_ne_zero, List.length_cons, List.length_nil, Nat.le_refl, Nat.reduceAdd, Nat.reduceMul, Nat.reduceLeDiff, Int.toNat_zero, Int.toNat_one, hgf6, i64s_get hx, hgt6, hset, hlen6]
            refine ⟨by omega, hjj _ _ _ ⟨?_, rfl, hn8⟩⟩
            simp; omega
          rintro _ _ n7 ⟨rfl, rfl, hn7⟩
          simp (disch := first | omega | assumption | exact shr_lt (by assumption) | exact ndiff32 (by assumption) | exact below_lt (by omega) | fail) only [List.getD_cons_zero, List.getD_cons_succ, wBin_lss, wBin_leq, wBin_gtr, wBin_geq, wBin_eql, wBin_neq, wIf_bool, wGuard_true, wGuard_false, wPick_true, wPick_false, wUn_not, wFld_eq, wExt_eq, wPart_one, wPart_agg, wLen_slice, wLen_string, wNew_eq, wNm_eq, dBox_agg, dBox_int, dBox_slice, dBox_string, dBox_bool, dBox_map, dBox_ptr, oneCells, wLd_none, wLd_2, wLd_3, wLd_32, ldP_cells, ldP_rom, cellP_one, getH_same, getH_ne, forceV_eq, forceN_eq, hsK_eq, Option.elim_some, List.getElem?_cons_zero, List.getElem?_cons_succ, Yld.val, decide_true, decide_false, if_true, if_false, Bool.false_eq_true, Nat.zero_add, Nat.add_zero, and_true, true_and, or_false, Bool.not_true, Bool.not_false, and_self, wBin_add64, wBin_sub64, wIdx_slice, wIdx_array, wNilc_eq, Int.toNat_natCast, Nat.mul_one, Nat.zero_mul, wSt_agg, wSt_int, wSt_bool, wSt_string, wSt_slice, wSt_ptr, wSt_map, wSt_func, stP_cells, bit_one, bit_zero, bit_one', bit_zero', wBin_shr32, wBin_and1, wBin_rem2, wBin_andNot32, wBin_or32, wBin_and32, wBin_shl32, u32_eq_zero, u32_ne_zero, List.length_cons, List.length_nil, Nat.le_refl, Nat.reduceAdd, Nat.reduceMul, Nat.reduceLeDiff, Int.toNat_zero, Int.toNat_one]
          refine hih3 (m3 - 1) _ _ _ (by omega) ⟨i + 1, k, c2, m1 ++ [x], t3.tail, by omega, by simp; omega, by omega, hk, by simp; omega, htl3 x, by rw [hq1]; simp, hq2, by omega, by omega, by rw [getH_ne _ hne]; exact hgf6, by rw [getH_same], (hE6.hs hbt).more hn7⟩
        · rw [hmer] at hq1 hq2
          dsimp only at hq1 hq2
          have hyl : lo + la + k < n := by have := (List.getElem?_eq_some_iff.1 hy).1; omega
          have hbig : c2 + (la - i) ≤ 1000000 := by omega
          simp (disch := first | omega | assumption | exact shr_lt (by assumption) | exact ndiff32 (by assumption) | exact below_lt (by omega) | fail) only [List.getD_cons_zero, List.getD_cons_succ, wBin_lss, wBin_leq, wBin_gtr, wBin_geq, wBin_eql, wBin_neq, wIf_bool, wGuard_true, wGuard_false, wPick_true, wPick_false, wUn_not, wFld_eq, wExt_eq, wPart_one, wPart_agg, wLen_slice, wLen_string, wNew_eq, wNm_eq, dBox_agg, dBox_int, dBox_slice, dBox_string, dBox_bool, dBox_map, dBox_ptr, oneCells, wLd_none, wLd_2, wLd_3, wLd_32, ldP_cells, ldP_rom, cellP_one, getH_same, getH_ne, forceV_eq, forceN_eq, hsK_eq, Option.elim_some, List.getElem?_cons_zero, List.getElem?_cons_succ, Yld.val, decide_true, decide_false, if_true, if_false, Bool.false_eq_true, Nat.zero_add, Nat.add_zero, and_true, true_and, or_false, Bool.not_true, Bool.not_false, and_self, wBin_add64, wBin_sub64, wIdx_slice, wIdx_array, wNilc_eq, Int.toNat_natCast, Nat.mul_one, Nat.zero_mul, wSt_agg, wSt_int, wSt_bool, wSt_string, wSt_slice, wSt_ptr, wSt_map, wSt_func, stP_cells, bit_one, bit_zero, bit_one', bit_zero', wBin_shr32, wBin_and1, wBin_rem2, wBin_andNot32, wBin_or32, wBin_and32, wBin_shl32, u32_eq_zero, u32_ne_zero, List.length_cons, List.length_nil, Nat.le_refl, Nat.reduceAdd, Nat.reduceMul, Nat.reduceLeDiff, Int.toNat_zero, Int.toNat_one, hat']
          refine wJoin_rule (fun L' H' nx' => L' = [.int .i64 ((c2 + (la - i) : Nat) : Int), .int .i64 ((lo + i : Nat) : Int), .int .i64 ((lo + la + (k + 1) : Nat) : Int)] ∧ Go.Clo.hs H6 bt (some (.cells (i64s (dn ++ (m1 ++ [y]) ++ t3.tail)) st)) = H' ∧ n6 ≤ nx') ?_ ?_
          · intro jj hjj
            refine wJoin_rule (fun L' H' nx' => L' = [.bool false] ∧ H6 = H' ∧ n6 ≤ nx') ?_ ?_
            · intro j2 hj2
              rcases hcond with h2 | ⟨h2, x, hx, hxy⟩
              · have d1 : ¬ ((lo + i : Nat) : Int) < ((lo + la : Nat) : Int) := by omega
                simp (disch := first | omega | assumption | exact shr_lt (by assumption) | exact ndiff32 (by assumption) | exact below_lt (by omega) | fail) only [List.getD_cons_zero, List.getD_cons_succ, wBin_lss, wBin_leq, wBin_gtr, wBin_geq, wBin_eql, wBin_neq, wIf_bool, wGuard_true, wGuard_false, wPick_true, wPick_false, wUn_not, wFld_eq, wExt_eq, wPart_one, wPart_agg, wLen_slice, wLen_string, wNew_eq, wNm_eq, dBox_agg, dBox_int, dBox_slice, dBox_string, dBox_bool, dBox_map, dBox_ptr, oneCells, wLd_none, wLd_2, wLd_3, wLd_32, ldP_cells, ldP_rom, cellP_one, getH_same, getH_ne, forceV_eq, forceN_eq, hsK_eq, Option.elim_some, List.getElem?_cons_zero, List.getElem?_cons_succ, Yld.val, decide_true, decide_false, if_true, if_false, Bool.false_eq_true, Nat.zero_add, Nat.add_zero, and_true, true_and, or_false, Bool.not_true, Bool.not_false, and_self, wBin_add64, wBin_sub64, wIdx_slice, wIdx_array, wNilc_eq, Int.toNat_natCast, Nat.mul_one, Nat.zero_mul, wSt_agg, wSt_int, wSt_bool, wSt_string, wSt_slice, wSt_ptr, wSt_map, wSt_func, stP_cells, bit_one, bit_zero, bit_one', bit_zero', wBin_shr32, wBin_and1, wBin_rem2, wBin_andNot32, wBin_or32, wBin_and32, wBin_shl32, u32_eq_zero, u32_ne_zero, List.length_cons, List.length_nil, Nat.le_refl, Nat.reduceAdd, Nat.reduceMul, Nat.reduceLeDiff, Int.toNat_zero, Int.toNat_one, d1]
                exact hj2 _ _ _ ⟨rfl, rfl, by omega⟩
              · have d1 : ((lo + i : Nat) : Int) < ((lo + la : Nat) : Int) := by omega
                have d2 : decide (((lo + la + k : Nat) : Int) = ((lo + la + lb : Nat) : Int)) = false := by simp; omega
                have d3 : decide (x ≤ y) = false := by simpa using hxy
                have hxl : lo + i < n := by have := (List.getElem?_eq_some_iff.1 hx).1; omega
                simp (disch := first | omega | assumption | exact shr_lt (by assumption) | exact ndiff32 (by assumption) | exact below_lt (by omega) | fail) only [List.getD_cons_zero, List.getD_cons_succ, wBin_lss, wBin_leq, wBin_gtr, wBin_geq, wBin_eql, wBin_neq, wIf_bool, wGuard_true, wGuard_false, wPick_true, wPick_false, wUn_not, wFld_eq, wExt_eq, wPart_one, wPart_agg, wLen_slice, wLen_string, wNew_eq, wNm_eq, dBox_agg, dBox_int, dBox_slice, dBox_string, dBox_bool, dBox_map, dBox_ptr, oneCells, wLd_none, wLd_2, wLd_3, wLd_32, ldP_cells, ldP_rom, cellP_one, getH_same, getH_ne, forceV_eq, forceN_eq, hsK_eq, Option.elim_some, List.getElem?_cons_zero, List.getElem?_cons_succ, Yld.val, decide_true, decide_false, if_true, if_false, Bool.false_eq_true, Nat.zero_add, Nat.add_zero, and_true, true_and, or_false, Bool.not_true, Bool.not_false, and_self, wBin_add64, wBin_sub64, wIdx_slice, wIdx_array, wNilc_eq, Int.toNat_natCast, Nat.mul_one, Nat.zero_mul, wSt_agg, wSt_int, wSt_bool, wSt_string, wSt_slice, wSt_ptr, wSt_map, wSt_func, stP_cells, bit_one, bit_zero, bit_one', bit_zero', wBin_shr32, wBin_and1, wBin_rem2, wBin_andNot32, wBin_or32, wBin_and32, wBin_shl32, u32_eq_zero, u32_ne_zero, List.length_cons, List.length_nil, Nat.le_refl, Nat.reduceAdd, Nat.reduceMul, Nat.reduceLeDiff, Int.toNat_zero, Int.toNat_one, d1, d2, hgf6, i64s_get hx, i64s_get hy, d3]
                exact hj2 _ _ _ ⟨rfl, rfl, by omega⟩
            rintro _ _ n8 ⟨rfl, rfl, hn8⟩
            have e5 : (c2 : Int) + (((lo + la : Nat) : Int) - ((lo + i : Nat) : Int)) = ((c2 + (la - i) : Nat) : Int) := cast_sub c2 lo la i hi
            have e6 : ((lo + la + k : Nat) : Int) + 1 = ((lo + la + (k + 1) : Nat) : Int) := by omega
            simp (disch := first | omega | assumption | exact shr_lt (by assumption) | exact ndiff32 (by assumption) | exact below_lt (by omega) | fail) only [List.getD_cons_zero, List.getD_cons_succ, wBin_lss, wBin_leq, wBin_gtr, wBin_geq, wBin_eql, wBin_neq, wIf_bool, wGuard_true, wGuard_false, wPick_true, wPick_false, wUn_not, wFld_eq, wExt_eq, wPart_one, wPart_agg, wLen_slice, wLen_string, wNew_eq, wNm_eq, dBox_agg, dBox_int, dBox_slice, dBox_string, dBox_bool, dBox_map, dBox_ptr, oneCells, wLd_none, wLd_2, wLd_3, wLd_32, ldP_cells, ldP_rom, cellP_one, getH_same, getH_ne, forceV_eq, forceN_eq, hsK_eq, Option.elim_some, List.getElem?_cons_zero, List.getElem?_cons_succ, Yld.val, decide_true, decide_false, if_true, if_false, Bool.false_eq_true, Nat.zero_add, Nat.add_zero, and_true, true_and, or_false, Bool.not_true, Bool.not_false, and_self, wBin_add64, wBin_sub64, wIdx_slice, wIdx_array, wNilc_eq, Int.toNat_natCast, Nat.mul_one, Nat.zero_mul, wSt_agg, wSt_int, wSt_bool, wSt_string, wSt_slice, wSt_ptr, wSt_map, wSt_func, stP_cells, bit_one, bit_zero, bit_one', bit_zero', wBin_shr32, wBin_and1, wBin_rem2, wBin_andNot32, wBin_or32, wBin_and32, wBin_shl32, u32_eq_zero, u32_ne_zero, List.length_cons, List.length_nil, Nat.le_refl, Nat.reduceAdd, Nat.reduceMul, Nat.reduceLeDiff, Int.toNat_zero, Int.toNat_one, hgf6, i64s_get hy, hgt6, hset, hlen6, e5, e6]
            exact ⟨by omega, hjj _ _ _ ⟨rfl, rfl, hn8⟩⟩
          rintro _ _ n7 ⟨rfl, rfl, hn7⟩
          simp (disch := first | omega | assumption | exact shr_lt (by assumption) | exact ndiff32 (by assumption) | exact below_lt (by omega) | fail) only [List.getD_cons_zero, List.getD_cons_succ, wBin_lss, wBin_leq, wBin_gtr, wBin_geq, wBin_eql, wBin_neq, wIf_bool, wGuard_true, wGuard_false, wPick_true, wPick_false, wUn_not, wFld_eq, wExt_eq, wPart_one, wPart_agg, wLen_slice, wLen_string, wNew_eq, wNm_eq, dBox_agg, dBox_int, dBox_slice, dBox_string, dBox_bool, dBox_map, dBox_ptr, oneCells, wLd_none, wLd_2, wLd_3, wLd_32, ldP_cells, ldP_rom, cellP_one, getH_same, getH_ne, forceV_eq, forceN_eq, hsK_eq, Option.elim_some, List.getElem?_cons_zero, List.getElem?_cons_succ, Yld.val, decide_true, decide_false, if_true, if_false, Bool.false_eq_true, Nat.zero_add, Nat.add_zero, and_true, true_and, or_false, Bool.not_true, Bool.not_false, and_self, wBin_add64, wBin_sub64, wIdx_slice, wIdx_array, wNilc_eq, Int.toNat_natCast, Nat.mul_one, Nat.zero_mul, wSt_agg, wSt_int, wSt_bool, wSt_string, wSt_slice, wSt_ptr, wSt_map, wSt_func, stP_cells, bit_one, bit_zero, bit_one', bit_zero', wBin_shr32, wBin_and1, wBin_rem2, wBin_andNot32, wBin_or32, wBin_and32, wBin_shl32, u32_eq_zero, u32_ne_zero, List.length_cons, List.length_nil, Nat.le_refl, Nat.reduceAdd, Nat.reduceMul, Nat.reduceLeDiff, Int.toNat_zero, Int.toNat_one]
          refine hih3 (m3 - 1) _ _ _ (by omega) ⟨i, k + 1, c2 + (la - i), m1 ++ [y], t3.tail, by omega, by simp; omega, hi, by omega, by simp; omega, htl3 y, by rw [hq1]; simp, by omega, by omega, by omega, by rw [getH_ne _ hne]; exact hgf6, by rw [getH_same], (hE6.hs hbt).more hn7⟩
      · have hat' : ¬ ((lo + i + k : Nat) : Int) < ((lo + la + lb : Nat) : Int) := by omega
        have hda : ((f.drop lo).take w).drop i = [] := List.drop_eq_nil_of_le (by omega)
        have hdb : (((f.drop lo).drop w).take w).drop k = [] := List.drop_eq_nil_of_le (by omega)
        rw [hda, hdb, merge_nil] at hq1 hq2
        simp only [List.append_nil, Nat.add_zero] at hq1 hq2
        have hrr : n - (j + 1) = r := by omega
        simp (disch := first | omega | assumption | exact shr_lt (by assumption) | exact ndiff32 (by assumption) | exact below_lt (by omega) | fail) only [List.getD_cons_zero, List.getD_cons_succ, wBin_lss, wBin_leq, wBin_gtr, wBin_geq, wBin_eql, wBin_neq, wIf_bool, wGuard_true, wGuard_false, wPick_true, wPick_false, wUn_not, wFld_eq, wExt_eq, wPart_one, wPart_agg, wLen_slice, wLen_string, wNew_eq, wNm_eq, dBox_agg, dBox_int, dBox_slice, dBox_string, dBox_bool, dBox_map, dBox_ptr, oneCells, wLd_none, wLd_2, wLd_3, wLd_32, ldP_cells, ldP_rom, cellP_one, getH_same, getH_ne, forceV_eq, forceN_eq, hsK_eq, Option.elim_some, List.getElem?_cons_zero, List.getElem?_cons_succ, Yld.val, decide_true, decide_false, if_true, if_false, Bool.false_eq_true, Nat.zero_add, Nat.add_zero, and_true, true_and, or_false, Bool.not_true, Bool.not_false, and_self, wBin_add64, wBin_sub64, wIdx_slice, wIdx_array, wNilc_eq, Int.toNat_natCast, Nat.mul_one, Nat.zero_mul, wSt_agg, wSt_int, wSt_bool, wSt_string, wSt_slice, wSt_ptr, wSt_map, wSt_func, stP_cells, bit_one, bit_zero, bit_one', bit_zero', wBin_shr32, wBin_and1, wBin_rem2, wBin_andNot32, wBin_or32, wBin_and32, wBin_shl32, u32_eq_zero, u32_ne_zero, List.length_cons, List.length_nil, Nat.le_refl, Nat.reduceAdd, Nat.reduceMul, Nat.reduceLeDiff, Int.toNat_zero, Int.toNat_one, hat', m2w, e2, e3]
        refine hih2 (m2 - 1) _ _ _ (by omega) ⟨j + 1, c2, dn ++ m1, t3, by omega, ?_, ?_, htt3, ?_, ?_, hbf6, hbt6, hgf6, hgt6, hE6⟩
        · rw [hlo2]
        · rw [hlo2, List.length_append]; omega
        · rw [hlo2, hp1, hq1, hrr, List.append_assoc]
        · rw [hlo2, hrr]; omega
    · have hlon' : ¬ (lo : Int) < (n : Int) := by omega
      have hdf : f.drop lo = [] := List.drop_eq_nil_of_le (by omega)
      rw [hdf, pass_nil] at hp1 hp2
      simp only [List.append_nil, Nat.add_zero] at hp1 hp2
      have ht2 : t2 = [] := by
        rw [List.length_append] at htt
        exact List.length_eq_zero_iff.1 (by omega)
      subst ht2
      rw [List.append_nil] at hgt5
      have e4 : (w : Int) * 2 = ((2 * w : Nat) : Int) := by omega
      have mw2 := fun k => wBin_mul64 (a := (w : Int)) (b := 2) k (by omega) (by omega)
      simp (disch := first | omega | assumption | exact shr_lt (by assumption) | exact ndiff32 (by assumption) | exact below_lt (by omega) | fail) only [List.getD_cons_zero, List.getD_cons_succ, wBin_lss, wBin_leq, wBin_gtr, wBin_geq, wBin_eql, wBin_neq, wIf_bool, wGuard_true, wGuard_false, wPick_true, wPick_false, wUn_not, wFld_eq, wExt_eq, wPart_one, wPart_agg, wLen_slice, wLen_string, wNew_eq, wNm_eq, dBox_agg, dBox_int, dBox_slice, dBox_string, dBox_bool, dBox_map, dBox_ptr, oneCells, wLd_none, wLd_2, wLd_3, wLd_32, ldP_cells, ldP_rom, cellP_one, getH_same, getH_ne, forceV_eq, forceN_eq, hsK_eq, Option.elim_some, List.getElem?_cons_zero, List.getElem?_cons_succ, Yld.val, decide_true, decide_false, if_true, if_false, Bool.false_eq_true, Nat.zero_add, Nat.add_zero, and_true, true_and, or_false, Bool.not_true, Bool.not_false, and_self, wBin_add64, wBin_sub64, wIdx_slice, wIdx_array, wNilc_eq, Int.toNat_natCast, Nat.mul_one, Nat.zero_mul, wSt_agg, wSt_int, wSt_bool, wSt_string, wSt_slice, wSt_ptr, wSt_map, wSt_func, stP_cells, bit_one, bit_zero, bit_one', bit_zero', wBin_shr32, wBin_and1, wBin_rem2, wBin_andNot32, wBin_or32, wBin_and32, wBin_shl32, u32_eq_zero, u32_ne_zero, List.length_cons, List.length_nil, Nat.le_refl, Nat.reduceAdd, Nat.reduceMul, Nat.reduceLeDiff, Int.toNat_zero, Int.toNat_one, hlon', mw2, e4]
      refine hih (m - 1 - (w - 1)) _ _ _ (by omega) ⟨2 * w, c1, bt, bf, st, sf, dn, f, by omega, rfl, by omega, ?_, hfl, hne.symm, hbt, hbf, hbt5, hbf5, hgt5, hgf5, hE5⟩
      rw [← hp1, hp2]
      exact hRp
  · have hwn' : ¬ (w : Int) < (n : Int) := by omega
    simp (disch := first | omega | assumption | exact shr_lt (by assumption) | exact ndiff32 (by assumption) | exact below_lt (by omega) | fail) only [List.getD_cons_zero, List.getD_cons_succ, wBin_lss, wBin_leq, wBin_gtr, wBin_geq, wBin_eql, wBin_neq, wIf_bool, wGuard_true, wGuard_false, wPick_true, wPick_false, wUn_not, wFld_eq, wExt_eq, wPart_one, wPart_agg, wLen_slice, wLen_string, wNew_eq, wNm_eq, dBox_agg, dBox_int, dBox_slice, dBox_string, dBox_bool, dBox_map, dBox_ptr, oneCells, wLd_none, wLd_2, wLd_3, wLd_32, ldP_cells, ldP_rom, cellP_one, getH_same, getH_ne, forceV_eq, forceN_eq, hsK_eq, Option.elim_some, List.getElem?_cons_zero, List.getElem?_cons_succ, Yld.val, decide_true, decide_false, if_true, if_false, Bool.false_eq_true, Nat.zero_add, Nat.add_zero, and_true, true_and, or_false, Bool.not_true, Bool.not_false, and_self, wBin_add64, wBin_sub64, wIdx_slice, wIdx_array, wNilc_eq, Int.toNat_natCast, Nat.mul_one, Nat.zero_mul, wSt_agg, wSt_int, wSt_bool, wSt_string, wSt_slice, wSt_ptr, wSt_map, wSt_func, stP_cells, bit_one, bit_zero, bit_one', bit_zero', wBin_shr32, wBin_and1, wBin_rem2, wBin_andNot32, wBin_or32, wBin_and32, wBin_shl32, u32_eq_zero, u32_ne_zero, List.length_cons, List.length_nil, Nat.le_refl, Nat.reduceAdd, Nat.reduceMul, Nat.reduceLeDiff, Int.toNat_zero, Int.toNat_one, hwn']
    exact ⟨by rw [hR.done (by omega)], hE4⟩
end Go.Proofs.YtdecggbglnbhlaaGreatDoor
