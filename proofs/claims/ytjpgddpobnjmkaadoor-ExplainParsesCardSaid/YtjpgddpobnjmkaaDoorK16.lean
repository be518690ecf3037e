/-
  Contracts: slices.Compact over sorted strings; the error code of a list of names, as the program computes it.
-/
import Derived.Test.YtjpgddpobnjmkaaDoorK15
set_option linter.unusedSimpArgs false
set_option linter.unusedVariables false
set_option linter.unusedSectionVars false
namespace Go.Proofs.YtjpgddpobnjmkaaDoor
open Go.Clo

theorem boundA_nat {l n : Nat} (h : l ≤ n) : boundA (some (.int .i64 (l : Int))) n = some l := by
  show (cond (Nat.ble l n) (some l) none) = some l
  rw [bltrue h]; rfl
theorem looseA_some {c : List Value} {sl n : Nat} (hsl : sl = 0 ∨ sl = 1) : ∃ x, looseA (.cells c sl) 0 n 1 = some x := by
  rcases hsl with rfl | rfl
  · exact ⟨_, rfl⟩
  · exact ⟨_, rfl⟩
theorem wSl_lo {H : Heap} {b n l sl : Nat} {c : List Value} (hg : getH H b = some (.cells c sl)) (hl : l < n) (hsl : sl = 0 ∨ sl = 1) (k : VP) : wSl (.slice (some ⟨b, 0, none⟩) n n) 1 (some (.int .i64 (l : Int))) none none H k = k (.slice (some ⟨b, l, none⟩) (n - l) (n - l)) := by
  obtain ⟨x, hx⟩ := looseA_some (c := c) (n := n) hsl
  have e : sliceA (some ⟨b, 0, none⟩) n n 1 (some (.int .i64 (l : Int))) none none x = some (.slice (some ⟨b, l, none⟩) (n - l) (n - l)) := by
    simp only [sliceA, hiA, loA, boundA_nat (Nat.le_of_lt hl)]
    simp only [boundA, beqfalse (show n ≠ l by omega), bltrue (show l ≤ n by omega)]
    simp
  unfold wSl
  dsimp only
  rw [getB_eq, hg]
  simp only [Option.elim_some, slB]
  rw [hx]
  dsimp only
  rw [e]
  exact force1_eq _ _
theorem wSl_hi {H : Heap} {b n h sl : Nat} {c : List Value} (hg : getH H b = some (.cells c sl)) (hh : h ≤ n) (hsl : sl = 0 ∨ sl = 1) (k : VP) : wSl (.slice (some ⟨b, 0, none⟩) n n) 1 none (some (.int .i64 (h : Int))) none H k = k (.slice (some ⟨b, 0, none⟩) h n) := by
  obtain ⟨x, hx⟩ := looseA_some (c := c) (n := n) hsl
  have e : sliceA (some ⟨b, 0, none⟩) n n 1 none (some (.int .i64 (h : Int))) none x = some (.slice (some ⟨b, 0, none⟩) h n) := by
    simp only [sliceA, hiA, loA, boundA_nat hh]
    simp only [boundA, beqtrue, bltrue (Nat.zero_le n), bltrue hh, cond_true]
    cases Nat.beq n 0 <;> simp
  unfold wSl
  dsimp only
  rw [getB_eq, hg]
  simp only [Option.elim_some, slB]
  rw [hx]
  dsimp only
  rw [e]
  exact force1_eq _ _
theorem repeatA_strs (z : ByteArray) : ∀ m, repeatA [.string z] m = strs (List.replicate m z)
  | 0 => rfl
  | m + 1 => by rw [repeatA, repeatA_strs z m]; rfl
theorem wClrS_strs {H : Heap} {b o m c : Nat} (z : ByteArray) (hm : 0 < m) (k : Heap → Prop) : wClrS (.slice (some ⟨b, o, none⟩) m c) [.string z] H k = stP (getH H b) o (strs (List.replicate m z)) fun blk => k (hs H b (some blk)) := by
  unfold wClrS
  dsimp only
  rw [beqfalse (show m ≠ 0 by omega), repeatA_strs, oneCells_strs]
  exact putCK_eq _ _ _ _ _
theorem wBin_strne (a b : ByteArray) (k : VP) : wBin .neq (.string a) (.string b) k = k (.bool (!decide (a = b))) := by
  rw [wBin_eq]
  have e : (a.toList == b.toList) = decide (a = b) := by
    rw [Bool.eq_iff_iff, beq_iff_eq, decide_eq_true_eq]
    exact ⟨fun h => bytes_eq h, fun h => by rw [h]⟩
  simp only [binV, strV, Option.elim_some, e]
theorem putL_strs {l : List ByteArray} {i : Nat} {x : ByteArray} (h : i < l.length) : putL (strs l) i [.string x] = strs (l.set i x) := by
  rw [putL_get (by rw [strs_length]; exact h)]; simp [strs, List.map_set]

/-- No two neighbors are equal. -/
def AdjNe (ys : List ByteArray) : Prop := ∀ (i : Nat) (s t : ByteArray), ys[i]? = some s → ys[i + 1]? = some t → s ≠ t

set_option maxHeartbeats 2000000 in
theorem compact32 (lo : Nat) (v : Value) (ys : List ByteArray) (H0 H : Heap) (nx : Nat) (hA : Acc lo H nx 1 v ys.length (strs ys)) (hE : Ext H0 lo H nx) (hl : ys.length ≤ 1000) : Ans Tryd.prog 32 [v] H nx fun r H' nx' => (∃ A n c, r = .slice A n c ∧ (n = ys.length ↔ AdjNe ys)) ∧ Ext H0 lo H' nx' := by
  refine spec32 ?_
  unfold F32
  rcases hA.2 with ⟨h0, rfl⟩ | ⟨b, hb1, hb2, rfl, hg⟩
  · have d : ((0 : Nat) : Int) < 2 := by omega
    simp (disch := first | omega | assumption | exact shr_lt (by assumption) | exact ndiff32 (by assumption) | exact below_lt (by omega) | fail) only [List.getD_cons_zero, List.getD_cons_succ, wBin_lss, wBin_leq, wBin_gtr, wBin_geq, wBin_eql, wBin_neq, wIf_bool, wGuard_true, wGuard_false, wPick_true, wPick_false, wUn_not, wFld_eq, wExt_eq, wPart_one, wPart_agg, wLen_slice, wLen_string, wNew_eq, wNm_eq, dBox_agg, dBox_int, dBox_slice, dBox_string, dBox_bool, dBox_map, dBox_ptr, oneCells, wLd_none, wLd_2, wLd_3, wLd_32, ldP_cells, ldP_rom, cellP_one, getH_same, getH_ne, forceV_eq, forceN_eq, hsK_eq, Option.elim_some, List.getElem?_cons_zero, List.getElem?_cons_succ, Yld.val, decide_true, decide_false, if_true, if_false, Bool.false_eq_true, Nat.zero_add, Nat.add_zero, and_true, true_and, or_false, Bool.not_true, Bool.not_false, and_self, wBin_add64, wBin_sub64, wIdx_slice, wIdx_array, wNilc_eq, Int.toNat_natCast, Nat.mul_one, Nat.zero_mul, wSt_agg, wSt_int, wSt_bool, wSt_string, wSt_slice, wSt_ptr, wSt_map, wSt_func, stP_cells, bit_one, bit_zero, bit_one', bit_zero', wBin_shr32, wBin_and1, wBin_rem2, wBin_andNot32, wBin_or32, wBin_and32, wBin_shl32, u32_eq_zero, u32_ne_zero, List.length_cons, List.length_nil, Nat.le_refl, Nat.reduceAdd, Nat.reduceMul, Nat.reduceLeDiff, Int.toNat_zero, Int.toNat_one, d]
    have : ys = [] := List.eq_nil_of_length_eq_zero h0
    subst this
    exact ⟨⟨none, 0, 0, rfl, fun _ i s t h => by simp at h, fun _ => rfl⟩, hE⟩
  by_cases h2 : ys.length < 2
  · have d : (ys.length : Int) < 2 := by omega
    simp (disch := first | omega | assumption | exact shr_lt (by assumption) | exact ndiff32 (by assumption) | exact below_lt (by omega) | fail) only [List.getD_cons_zero, List.getD_cons_succ, wBin_lss, wBin_leq, wBin_gtr, wBin_geq, wBin_eql, wBin_neq, wIf_bool, wGuard_true, wGuard_false, wPick_true, wPick_false, wUn_not, wFld_eq, wExt_eq, wPart_one, wPart_agg, wLen_slice, wLen_string, wNew_eq, wNm_eq, dBox_agg, dBox_int, dBox_slice, dBox_string, dBox_bool, dBox_map, dBox_ptr, oneCells, wLd_none, wLd_2, wLd_3, wLd_32, ldP_cells, ldP_rom, cellP_one, getH_same, getH_ne, forceV_eq, forceN_eq, hsK_eq, Option.elim_some, List.getElem?_cons_zero, List.getElem?_cons_succ, Yld.val, decide_true, decide_false, if_true, if_false, Bool.false_eq_true, Nat.zero_add, Nat.add_zero, and_true, true_and, or_false, Bool.not_true, Bool.not_false, and_self, wBin_add64, wBin_sub64, wIdx_slice, wIdx_array, wNilc_eq, Int.toNat_natCast, Nat.mul_one, Nat.zero_mul, wSt_agg, wSt_int, wSt_bool, wSt_string, wSt_slice, wSt_ptr, wSt_map, wSt_func, stP_cells, bit_one, bit_zero, bit_one', bit_zero', wBin_shr32, wBin_and1, wBin_rem2, wBin_andNot32, wBin_or32, wBin_and32, wBin_shl32, u32_eq_zero, u32_ne_zero, List.length_cons, List.length_nil, Nat.le_refl, Nat.reduceAdd, Nat.reduceMul, Nat.reduceLeDiff, Int.toNat_zero, Int.toNat_one, d]
    refine ⟨⟨_, _, _, rfl, fun _ i s t h1 h2' => ?_, fun _ => rfl⟩, hE⟩
    have := (List.getElem?_eq_some_iff.1 h2').1
    omega
  have d : ¬ (ys.length : Int) < 2 := by omega
  simp (disch := first | omega | assumption | exact shr_lt (by assumption) | exact ndiff32 (by assumption) | exact below_lt (by omega) | fail) only [List.getD_cons_zero, List.getD_cons_succ, wBin_lss, wBin_leq, wBin_gtr, wBin_geq, wBin_eql, wBin_neq, wIf_bool, wGuard_true, wGuard_false, wPick_true, wPick_false, wUn_not, wFld_eq, wExt_eq, wPart_one, wPart_agg, wLen_slice, wLen_string, wNew_eq, wNm_eq, dBox_agg, dBox_int, dBox_slice, dBox_string, dBox_bool, dBox_map, dBox_ptr, oneCells, wLd_none, wLd_2, wLd_3, wLd_32, ldP_cells, ldP_rom, cellP_one, getH_same, getH_ne, forceV_eq, forceN_eq, hsK_eq, Option.elim_some, List.getElem?_cons_zero, List.getElem?_cons_succ, Yld.val, decide_true, decide_false, if_true, if_false, Bool.false_eq_true, Nat.zero_add, Nat.add_zero, and_true, true_and, or_false, Bool.not_true, Bool.not_false, and_self, wBin_add64, wBin_sub64, wIdx_slice, wIdx_array, wNilc_eq, Int.toNat_natCast, Nat.mul_one, Nat.zero_mul, wSt_agg, wSt_int, wSt_bool, wSt_string, wSt_slice, wSt_ptr, wSt_map, wSt_func, stP_cells, bit_one, bit_zero, bit_one', bit_zero', wBin_shr32, wBin_and1, wBin_rem2, wBin_andNot32, wBin_or32, wBin_and32, wBin_shl32, u32_eq_zero, u32_ne_zero, List.length_cons, List.length_nil, Nat.le_refl, Nat.reduceAdd, Nat.reduceMul, Nat.reduceLeDiff, Int.toNat_zero, Int.toNat_one, d]
  refine wLoop_rule (fun m L H' nx' => ∃ k : Nat, m + k = ys.length ∧ 1 ≤ k ∧ L = [.int .i64 (k : Int)] ∧ (∀ (i : Nat) (s t : ByteArray), i + 1 < k → ys[i]? = some s → ys[i + 1]? = some t → s ≠ t) ∧ H = H' ∧ nx ≤ nx') ?_ (m := ys.length - 1) ⟨1, by omega, Nat.le_refl _, rfl, fun i s t h => by omega, rfl, Nat.le_refl _⟩
  rintro m ih L _ n1 ⟨k, hm, hk1, rfl, hst, rfl, hn1⟩ hih
  simp (disch := first | omega | assumption | exact shr_lt (by assumption) | exact ndiff32 (by assumption) | exact below_lt (by omega) | fail) only [List.getD_cons_zero, List.getD_cons_succ, wBin_lss, wBin_leq, wBin_gtr, wBin_geq, wBin_eql, wBin_neq, wIf_bool, wGuard_true, wGuard_false, wPick_true, wPick_false, wUn_not, wFld_eq, wExt_eq, wPart_one, wPart_agg, wLen_slice, wLen_string, wNew_eq, wNm_eq, dBox_agg, dBox_int, dBox_slice, dBox_string, dBox_bool, dBox_map, dBox_ptr, oneCells, wLd_none, wLd_2, wLd_3, wLd_32, ldP_cells, ldP_rom, cellP_one, getH_same, getH_ne, forceV_eq, forceN_eq, hsK_eq, Option.elim_some, List.getElem?_cons_zero, List.getElem?_cons_succ, Yld.val, decide_true, decide_false, if_true, if_false, Bool.false_eq_true, Nat.zero_add, Nat.add_zero, and_true, true_and, or_false, Bool.not_true, Bool.not_false, and_self, wBin_add64, wBin_sub64, wIdx_slice, wIdx_array, wNilc_eq, Int.toNat_natCast, Nat.mul_one, Nat.zero_mul, wSt_agg, wSt_int, wSt_bool, wSt_string, wSt_slice, wSt_ptr, wSt_map, wSt_func, stP_cells, bit_one, bit_zero, bit_one', bit_zero', wBin_shr32, wBin_and1, wBin_rem2, wBin_andNot32, wBin_or32, wBin_and32, wBin_shl32, u32_eq_zero, u32_ne_zero, List.length_cons, List.length_nil, Nat.le_refl, Nat.reduceAdd, Nat.reduceMul, Nat.reduceLeDiff, Int.toNat_zero, Int.toNat_one]
  by_cases hk : k < ys.length
  · have hk' : (k : Int) < (ys.length : Int) := by omega
    have ek : ys[k]? = some ys[k] := List.getElem?_eq_getElem hk
    have ek1 : ys[k - 1]? = some ys[k - 1] := List.getElem?_eq_getElem (by omega)
    have e1 : (k : Int) - 1 = ((k - 1 : Nat) : Int) := by omega
    by_cases he : ys[k] = ys[k - 1]
    · have he' : decide (ys[k] = ys[k - 1]) = true := by simp [he]
      simp (disch := first | omega | assumption | exact shr_lt (by assumption) | exact ndiff32 (by assumption) | exact below_lt (by omega) | fail) only [List.getD_cons_zero, List.getD_cons_succ, wBin_lss, wBin_leq, wBin_gtr, wBin_geq, wBin_eql, wBin_neq, wIf_bool, wGuard_true, wGuard_false, wPick_true, wPick_false, wUn_not, wFld_eq, wExt_eq, wPart_one, wPart_agg, wLen_slice, wLen_string, wNew_eq, wNm_eq, dBox_agg, dBox_int, dBox_slice, dBox_string, dBox_bool, dBox_map, dBox_ptr, oneCells, wLd_none, wLd_2, wLd_3, wLd_32, ldP_cells, ldP_rom, cellP_one, getH_same, getH_ne, forceV_eq, forceN_eq, hsK_eq, Option.elim_some, List.getElem?_cons_zero, List.getElem?_cons_succ, Yld.val, decide_true, decide_false, if_true, if_false, Bool.false_eq_true, Nat.zero_add, Nat.add_zero, and_true, true_and, or_false, Bool.not_true, Bool.not_false, and_self, wBin_add64, wBin_sub64, wIdx_slice, wIdx_array, wNilc_eq, Int.toNat_natCast, Nat.mul_one, Nat.zero_mul, wSt_agg, wSt_int, wSt_bool, wSt_string, wSt_slice, wSt_ptr, wSt_map, wSt_func, stP_cells, bit_one, bit_zero, bit_one', bit_zero', wBin_shr32, wBin_and1, wBin_rem2, wBin_andNot32, wBin_or32, wBin_and32, wBin_shl32, u32_eq_zero, u32_ne_zero, List.length_cons, List.length_nil, Nat.le_refl, Nat.reduceAdd, Nat.reduceMul, Nat.reduceLeDiff, Int.toNat_zero, Int.toNat_one, hk', e1, hg, strs_get ek, strs_get ek1, wBin_streq, he', wSl_lo hg hk (.inr rfl)]
      refine wLoop_rule (fun m L H' nx' => ∃ (p q : Nat) (zs : List ByteArray), m + q = ys.length - k ∧ 1 ≤ q ∧ q ≤ ys.length - k ∧ k ≤ p ∧ p + 1 ≤ k + q ∧ L = [.int .i64 (p : Int), .int .i64 (q : Int)] ∧ zs.length = ys.length ∧ getH H' b = some (.cells (strs zs) 1) ∧ Ext H0 lo H' nx') ?_ (m := ys.length - k - 1) ⟨k, 1, ys, by omega, Nat.le_refl _, by omega, Nat.le_refl _, by omega, rfl, rfl, hg, hE.more (by omega)⟩
      rintro m2 ih2 L H2 n2 ⟨p, q, zs, hm2, hq1, hq, hp1, hp, rfl, hz, hg2, hE2⟩ hih2
      simp (disch := first | omega | assumption | exact shr_lt (by assumption) | exact ndiff32 (by assumption) | exact below_lt (by omega) | fail) only [List.getD_cons_zero, List.getD_cons_succ, wBin_lss, wBin_leq, wBin_gtr, wBin_geq, wBin_eql, wBin_neq, wIf_bool, wGuard_true, wGuard_false, wPick_true, wPick_false, wUn_not, wFld_eq, wExt_eq, wPart_one, wPart_agg, wLen_slice, wLen_string, wNew_eq, wNm_eq, dBox_agg, dBox_int, dBox_slice, dBox_string, dBox_bool, dBox_map, dBox_ptr, oneCells, wLd_none, wLd_2, wLd_3, wLd_32, ldP_cells, ldP_rom, cellP_one, getH_same, getH_ne, forceV_eq, forceN_eq, hsK_eq, Option.elim_some, List.getElem?_cons_zero, List.getElem?_cons_succ, Yld.val, decide_true, decide_false, if_true, if_false, Bool.false_eq_true, Nat.zero_add, Nat.add_zero, and_true, true_and, or_false, Bool.not_true, Bool.not_false, and_self, wBin_add64, wBin_sub64, wIdx_slice, wIdx_array, wNilc_eq, Int.toNat_natCast, Nat.mul_one, Nat.zero_mul, wSt_agg, wSt_int, wSt_bool, wSt_string, wSt_slice, wSt_ptr, wSt_map, wSt_func, stP_cells, bit_one, bit_zero, bit_one', bit_zero', wBin_shr32, wBin_and1, wBin_rem2, wBin_andNot32, wBin_or32, wBin_and32, wBin_shl32, u32_eq_zero, u32_ne_zero, List.length_cons, List.length_nil, Nat.le_refl, Nat.reduceAdd, Nat.reduceMul, Nat.reduceLeDiff, Int.toNat_zero, Int.toNat_one]
      by_cases hq2 : q < ys.length - k
      · have hq' : (q : Int) < ((ys.length - k : Nat) : Int) := by omega
        have ez : zs[k + q]? = some (zs[k + q]'(by omega)) := List.getElem?_eq_getElem (by omega)
        have ez1 : zs[k + (q - 1)]? = some (zs[k + (q - 1)]'(by omega)) := List.getElem?_eq_getElem (by omega)
        have e2 : (q : Int) - 1 = ((q - 1 : Nat) : Int) := by omega
        have hp' : (p : Int) < (ys.length : Int) := by omega
        generalize (zs[k + q]'(by omega)) = z at ez
        generalize (zs[k + (q - 1)]'(by omega)) = z' at ez1
        by_cases hz2 : z = z'
        · have hz' : decide (z = z') = true := by simp [hz2]
          simp (disch := first | omega | assumption | exact shr_lt (by assumption) | exact ndiff32 (by assumption) | exact below_lt (by omega) | fail) only [List.getD_cons_zero, List.getD_cons_succ, wBin_lss, wBin_leq, wBin_gtr, wBin_geq, wBin_eql, wBin_neq, wIf_bool, wGuard_true, wGuard_false, wPick_true, wPick_false, wUn_not, wFld_eq, wExt_eq, wPart_one, wPart_agg, wLen_slice, wLen_string, wNew_eq, wNm_eq, dBox_agg, dBox_int, dBox_slice, dBox_string, dBox_bool, dBox_map, dBox_ptr, oneCells, wLd_none, wLd_2, wLd_3, wLd_32, ldP_cells, ldP_rom, cellP_one, getH_same, getH_ne, forceV_eq, forceN_eq, hsK_eq, Option.elim_some, List.getElem?_cons_zero, List.getElem?_cons_succ, Yld.val, decide_true, decide_false, if_true, if_false, Bool.false_eq_true, Nat.zero_add, Nat.add_zero, and_true, true_and, or_false, Bool.not_true, Bool.not_false, and_self, wBin_add64, wBin_sub64, wIdx_slice, wIdx_array, wNilc_eq, Int.toNat_natCast, Nat.mul_one, Nat.zero_mul, wSt_agg, wSt_int, wSt_bool, wSt_string, wSt_slice, wSt_ptr, wSt_map, wSt_func, stP_cells, bit_one, bit_zero, bit_one', bit_zero', wBin_shr32, wBin_and1, wBin_rem2, wBin_andNot32, wBin_or32, wBin_and32, wBin_shl32, u32_eq_zero, u32_ne_zero, List.length_cons, List.length_nil, Nat.le_refl, Nat.reduceAdd, Nat.reduceMul, Nat.reduceLeDiff, Int.toNat_zero, Int.toNat_one, wJoin_eq, hq', e2, hg2, strs_get ez, strs_get ez1, wBin_strne, hz']
          exact hih2 (m2 - 1) _ _ _ (by omega) ⟨p, q + 1, zs, by omega, by omega, by omega, hp1, by omega, by simp, hz, hg2, hE2.more (by omega)⟩
        · have hz' : decide (z = z') = false := by simp [hz2]
          simp (disch := first | omega | assumption | exact shr_lt (by assumption) | exact ndiff32 (by assumption) | exact below_lt (by omega) | fail) only [List.getD_cons_zero, List.getD_cons_succ, wBin_lss, wBin_leq, wBin_gtr, wBin_geq, wBin_eql, wBin_neq, wIf_bool, wGuard_true, wGuard_false, wPick_true, wPick_false, wUn_not, wFld_eq, wExt_eq, wPart_one, wPart_agg, wLen_slice, wLen_string, wNew_eq, wNm_eq, dBox_agg, dBox_int, dBox_slice, dBox_string, dBox_bool, dBox_map, dBox_ptr, oneCells, wLd_none, wLd_2, wLd_3, wLd_32, ldP_cells, ldP_rom, cellP_one, getH_same, getH_ne, forceV_eq, forceN_eq, hsK_eq, Option.elim_some, List.getElem?_cons_zero, List.getElem?_cons_succ, Yld.val, decide_true, decide_false, if_true, if_false, Bool.false_eq_true, Nat.zero_add, Nat.add_zero, and_true, true_and, or_false, Bool.not_true, Bool.not_false, and_self, wBin_add64, wBin_sub64, wIdx_slice, wIdx_array, wNilc_eq, Int.toNat_natCast, Nat.mul_one, Nat.zero_mul, wSt_agg, wSt_int, wSt_bool, wSt_string, wSt_slice, wSt_ptr, wSt_map, wSt_func, stP_cells, bit_one, bit_zero, bit_one', bit_zero', wBin_shr32, wBin_and1, wBin_rem2, wBin_andNot32, wBin_or32, wBin_and32, wBin_shl32, u32_eq_zero, u32_ne_zero, List.length_cons, List.length_nil, Nat.le_refl, Nat.reduceAdd, Nat.reduceMul, Nat.reduceLeDiff, Int.toNat_zero, Int.toNat_one, wJoin_eq, hq', e2, hg2, strs_get ez, strs_get ez1, wBin_strne, hz', strs_length]
          refine ⟨by omega, ?_⟩
          exact hih2 (m2 - 1) _ _ _ (by omega) ⟨p + 1, q + 1, zs.set p z, by omega, by omega, by omega, by omega, by omega, by simp, by simp [hz], by rw [getH_same, putL_strs (by omega)], (hE2.hs hb1).more (by omega)⟩
      · have hq' : ¬ (q : Int) < ((ys.length - k : Nat) : Int) := by omega
        have hpn : p < ys.length := by omega
        simp (disch := first | omega | assumption | exact shr_lt (by assumption) | exact ndiff32 (by assumption) | exact below_lt (by omega) | fail) only [List.getD_cons_zero, List.getD_cons_succ, wBin_lss, wBin_leq, wBin_gtr, wBin_geq, wBin_eql, wBin_neq, wIf_bool, wGuard_true, wGuard_false, wPick_true, wPick_false, wUn_not, wFld_eq, wExt_eq, wPart_one, wPart_agg, wLen_slice, wLen_string, wNew_eq, wNm_eq, dBox_agg, dBox_int, dBox_slice, dBox_string, dBox_bool, dBox_map, dBox_ptr, oneCells, wLd_none, wLd_2, wLd_3, wLd_32, ldP_cells, ldP_rom, cellP_one, getH_same, getH_ne, forceV_eq, forceN_eq, hsK_eq, Option.elim_some, List.getElem?_cons_zero, List.getElem?_cons_succ, Yld.val, decide_true, decide_false, if_true, if_false, Bool.false_eq_true, Nat.zero_add, Nat.add_zero, and_true, true_and, or_false, Bool.not_true, Bool.not_false, and_self, wBin_add64, wBin_sub64, wIdx_slice, wIdx_array, wNilc_eq, Int.toNat_natCast, Nat.mul_one, Nat.zero_mul, wSt_agg, wSt_int, wSt_bool, wSt_string, wSt_slice, wSt_ptr, wSt_map, wSt_func, stP_cells, bit_one, bit_zero, bit_one', bit_zero', wBin_shr32, wBin_and1, wBin_rem2, wBin_andNot32, wBin_or32, wBin_and32, wBin_shl32, u32_eq_zero, u32_ne_zero, List.length_cons, List.length_nil, Nat.le_refl, Nat.reduceAdd, Nat.reduceMul, Nat.reduceLeDiff, Int.toNat_zero, Int.toNat_one, hq', wSl_lo hg2 hpn (.inr rfl), wClrS_strs, hg2, strs_length, List.length_replicate]
        refine ⟨by omega, ?_⟩
        rw [wSl_hi (getH_same _ _ _) (Nat.le_of_lt hpn) (.inr rfl)]
        refine ⟨⟨_, _, _, rfl, fun h => absurd h (by omega), fun h => ?_⟩, hE2.hs hb1⟩
        have ek' : ys[k - 1 + 1]? = some ys[k] := by rw [show k - 1 + 1 = k by omega]; exact ek
        exact absurd he.symm (h (k - 1) _ _ ek1 ek')
    · have he' : decide (ys[k] = ys[k - 1]) = false := by simp [he]
      simp (disch := first | omega | assumption | exact shr_lt (by assumption) | exact ndiff32 (by assumption) | exact below_lt (by omega) | fail) only [List.getD_cons_zero, List.getD_cons_succ, wBin_lss, wBin_leq, wBin_gtr, wBin_geq, wBin_eql, wBin_neq, wIf_bool, wGuard_true, wGuard_false, wPick_true, wPick_false, wUn_not, wFld_eq, wExt_eq, wPart_one, wPart_agg, wLen_slice, wLen_string, wNew_eq, wNm_eq, dBox_agg, dBox_int, dBox_slice, dBox_string, dBox_bool, dBox_map, dBox_ptr, oneCells, wLd_none, wLd_2, wLd_3, wLd_32, ldP_cells, ldP_rom, cellP_one, getH_same, getH_ne, forceV_eq, forceN_eq, hsK_eq, Option.elim_some, List.getElem?_cons_zero, List.getElem?_cons_succ, Yld.val, decide_true, decide_false, if_true, if_false, Bool.false_eq_true, Nat.zero_add, Nat.add_zero, and_true, true_and, or_false, Bool.not_true, Bool.not_false, and_self, wBin_add64, wBin_sub64, wIdx_slice, wIdx_array, wNilc_eq, Int.toNat_natCast, Nat.mul_one, Nat.zero_mul, wSt_agg, wSt_int, wSt_bool, wSt_string, wSt_slice, wSt_ptr, wSt_map, wSt_func, stP_cells, bit_one, bit_zero, bit_one', bit_zero', wBin_shr32, wBin_and1, wBin_rem2, wBin_andNot32, wBin_or32, wBin_and32, wBin_shl32, u32_eq_zero, u32_ne_zero, List.length_cons, List.length_nil, Nat.le_refl, Nat.reduceAdd, Nat.reduceMul, Nat.reduceLeDiff, Int.toNat_zero, Int.toNat_one, hk', e1, hg, strs_get ek, strs_get ek1, wBin_streq, he']
      exact hih (m - 1) _ _ _ (by omega) ⟨k + 1, by omega, by omega, by simp, fun i s t h1 hs ht => by
        by_cases hik : i + 1 = k
        · subst hik
          rw [ek] at ht; cases ht
          have : ys[i]? = some ys[i + 1 - 1] := ek1
          rw [this] at hs; cases hs
          exact fun h => he h.symm
        · exact hst i s t (by omega) hs ht, rfl, by omega⟩
  · have hk' : ¬ (k : Int) < (ys.length : Int) := by omega
    simp (disch := first | omega | assumption | exact shr_lt (by assumption) | exact ndiff32 (by assumption) | exact below_lt (by omega) | fail) only [List.getD_cons_zero, List.getD_cons_succ, wBin_lss, wBin_leq, wBin_gtr, wBin_geq, wBin_eql, wBin_neq, wIf_bool, wGuard_true, wGuard_false, wPick_true, wPick_false, wUn_not, wFld_eq, wExt_eq, wPart_one, wPart_agg, wLen_slice, wLen_string, wNew_eq, wNm_eq, dBox_agg, dBox_int, dBox_slice, dBox_string, dBox_bool, dBox_map, dBox_ptr, oneCells, wLd_none, wLd_2, wLd_3, wLd_32, ldP_cells, ldP_rom, cellP_one, getH_same, getH_ne, forceV_eq, forceN_eq, hsK_eq, Option.elim_some, List.getElem?_cons_zero, List.getElem?_cons_succ, Yld.val, decide_true, decide_false, if_true, if_false, Bool.false_eq_true, Nat.zero_add, Nat.add_zero, and_true, true_and, or_false, Bool.not_true, Bool.not_false, and_self, wBin_add64, wBin_sub64, wIdx_slice, wIdx_array, wNilc_eq, Int.toNat_natCast, Nat.mul_one, Nat.zero_mul, wSt_agg, wSt_int, wSt_bool, wSt_string, wSt_slice, wSt_ptr, wSt_map, wSt_func, stP_cells, bit_one, bit_zero, bit_one', bit_zero', wBin_shr32, wBin_and1, wBin_rem2, wBin_andNot32, wBin_or32, wBin_and32, wBin_shl32, u32_eq_zero, u32_ne_zero, List.length_cons, List.length_nil, Nat.le_refl, Nat.reduceAdd, Nat.reduceMul, Nat.reduceLeDiff, Int.toNat_zero, Int.toNat_one, hk']
    refine ⟨⟨_, _, _, rfl, fun _ i s t h1 h2' => ?_, fun _ => rfl⟩, hE.more hn1⟩
    have := (List.getElem?_eq_some_iff.1 h2').1
    exact hst i s t (by omega) h1 h2'

theorem values31 (v : Value) (A : Option Addr) (n cap : Nat) (H : Heap) (nx : Nat) : Ans Tryd.prog 31 [.slice A n cap] H nx fun r H' nx' => .func (.func 40) ⟨[]⟩ ⟨[.pointer (some ⟨nx, 0, none⟩)]⟩ = r ∧ hs H nx (some (.cells [.slice A n cap] 0)) = H' ∧ nx + 1 = nx' := by
  refine spec31 ?_
  unfold F31
  simp (disch := first | omega | assumption | exact shr_lt (by assumption) | exact ndiff32 (by assumption) | exact below_lt (by omega) | fail) only [List.getD_cons_zero, List.getD_cons_succ, wBin_lss, wBin_leq, wBin_gtr, wBin_geq, wBin_eql, wBin_neq, wIf_bool, wGuard_true, wGuard_false, wPick_true, wPick_false, wUn_not, wFld_eq, wExt_eq, wPart_one, wPart_agg, wLen_slice, wLen_string, wNew_eq, wNm_eq, dBox_agg, dBox_int, dBox_slice, dBox_string, dBox_bool, dBox_map, dBox_ptr, oneCells, wLd_none, wLd_2, wLd_3, wLd_32, ldP_cells, ldP_rom, cellP_one, getH_same, getH_ne, forceV_eq, forceN_eq, hsK_eq, Option.elim_some, List.getElem?_cons_zero, List.getElem?_cons_succ, Yld.val, decide_true, decide_false, if_true, if_false, Bool.false_eq_true, Nat.zero_add, Nat.add_zero, and_true, true_and, or_false, Bool.not_true, Bool.not_false, and_self, wBin_add64, wBin_sub64, wIdx_slice, wIdx_array, wNilc_eq, Int.toNat_natCast, Nat.mul_one, Nat.zero_mul, wSt_agg, wSt_int, wSt_bool, wSt_string, wSt_slice, wSt_ptr, wSt_map, wSt_func, stP_cells, bit_one, bit_zero, bit_one', bit_zero', wBin_shr32, wBin_and1, wBin_rem2, wBin_andNot32, wBin_or32, wBin_and32, wBin_shl32, u32_eq_zero, u32_ne_zero, List.length_cons, List.length_nil, Nat.le_refl, Nat.reduceAdd, Nat.reduceMul, Nat.reduceLeDiff, Int.toNat_zero, Int.toNat_one]

/-! Sorted strings. -/
theorem sortS_perm (zs : List ByteArray) : (sortS zs).Perm zs := by
  have h : ((bytesOf zs).mergeSort fun x y => decide (x ≤ y)).Perm (bytesOf zs) := List.mergeSort_perm _ _
  have h2 := h.map fun l : List UInt8 => (⟨l.toArray⟩ : ByteArray)
  have e : (bytesOf zs).map (fun l : List UInt8 => (⟨l.toArray⟩ : ByteArray)) = zs := by
    simp [bytesOf, List.map_map, Function.comp_def]
  rw [e] at h2
  exact h2
theorem sortS_length (zs : List ByteArray) : (sortS zs).length = zs.length := (sortS_perm zs).length_eq
theorem sortS_sorted (zs : List ByteArray) : (sortS zs).Pairwise fun a b => a.data.toList ≤ b.data.toList := by
  have h : ((bytesOf zs).mergeSort fun x y => decide (x ≤ y)).Pairwise fun x y => decide (x ≤ y) = true :=
    List.pairwise_mergeSort (fun a b c h1 h2 => by simp only [decide_eq_true_eq] at *; exact List.le_trans h1 h2) (fun a b => by
      simp only [Bool.or_eq_true, decide_eq_true_eq]; exact List.le_total a b) _
  unfold sortS
  rw [List.pairwise_map]
  exact h.imp fun h => by simpa using h
theorem adj_nodup : ∀ (ys : List ByteArray), ys.Pairwise (fun a b => a.data.toList ≤ b.data.toList) → AdjNe ys → ys.Nodup
  | [], _, _ => List.nodup_nil
  | [x], _, _ => by simp
  | x :: y :: r, hp, ha => by
    have h1 := adj_nodup (y :: r) (List.pairwise_cons.1 hp).2 fun i s t hs ht => ha (i + 1) s t (by simpa using hs) (by simpa using ht)
    rw [List.nodup_cons]
    refine ⟨fun hx => ?_, h1⟩
    have hne : x ≠ y := ha 0 x y rfl rfl
    rcases List.mem_cons.1 hx with h | h
    · exact hne h
    · have a1 := (List.pairwise_cons.1 hp).1 y (by simp)
      have a2 := (List.pairwise_cons.1 (List.pairwise_cons.1 hp).2).1 x h
      exact hne (by
        have := List.le_antisymm a1 a2
        cases x; cases y; simpa using this)
theorem nodup_adj {ys : List ByteArray} (h : ys.Nodup) : AdjNe ys := fun i s t hs ht => by
  obtain ⟨h1, rfl⟩ := List.getElem?_eq_some_iff.1 hs
  obtain ⟨h2, rfl⟩ := List.getElem?_eq_some_iff.1 ht
  have := List.pairwise_iff_getElem.1 h
  exact this i (i + 1) h1 h2 (by omega)
theorem sort_nodup (zs : List ByteArray) : AdjNe (sortS zs) ↔ zs.Nodup :=
  ⟨fun h => (sortS_perm zs).nodup_iff.1 (adj_nodup _ (sortS_sorted zs) h), fun h => nodup_adj ((sortS_perm zs).nodup_iff.2 h)⟩

theorem checked14 (A : Option Addr) (vs : List ByteArray) (cap : Nat) (H : Heap) (nx : Nat) (hS : Sl H nx A (strs vs)) (hA0 : Has H nx A) (hcap : A = none → cap = 0) (hv : Short vs) (hl : vs.length ≤ 1000) : Ans Tryd.prog 14 [.slice A vs.length cap] H nx fun r H' nx' => .int .i64 (codeOf vs) = r ∧ Ext H nx H' nx' := by
  refine spec14 ?_
  unfold F14
  refine wCall_rule (any27 A vs cap H nx hS hv (by omega)) ?_
  rintro _ _ _ ⟨⟨c, rfl, hc⟩, rfl, rfl⟩
  cases c with
  | true =>
    simp (disch := first | omega | assumption | exact shr_lt (by assumption) | exact ndiff32 (by assumption) | exact below_lt (by omega) | fail) only [List.getD_cons_zero, List.getD_cons_succ, wBin_lss, wBin_leq, wBin_gtr, wBin_geq, wBin_eql, wBin_neq, wIf_bool, wGuard_true, wGuard_false, wPick_true, wPick_false, wUn_not, wFld_eq, wExt_eq, wPart_one, wPart_agg, wLen_slice, wLen_string, wNew_eq, wNm_eq, dBox_agg, dBox_int, dBox_slice, dBox_string, dBox_bool, dBox_map, dBox_ptr, oneCells, wLd_none, wLd_2, wLd_3, wLd_32, ldP_cells, ldP_rom, cellP_one, getH_same, getH_ne, forceV_eq, forceN_eq, hsK_eq, Option.elim_some, List.getElem?_cons_zero, List.getElem?_cons_succ, Yld.val, decide_true, decide_false, if_true, if_false, Bool.false_eq_true, Nat.zero_add, Nat.add_zero, and_true, true_and, or_false, Bool.not_true, Bool.not_false, and_self, wBin_add64, wBin_sub64, wIdx_slice, wIdx_array, wNilc_eq, Int.toNat_natCast, Nat.mul_one, Nat.zero_mul, wSt_agg, wSt_int, wSt_bool, wSt_string, wSt_slice, wSt_ptr, wSt_map, wSt_func, stP_cells, bit_one, bit_zero, bit_one', bit_zero', wBin_shr32, wBin_and1, wBin_rem2, wBin_andNot32, wBin_or32, wBin_and32, wBin_shl32, u32_eq_zero, u32_ne_zero, List.length_cons, List.length_nil, Nat.le_refl, Nat.reduceAdd, Nat.reduceMul, Nat.reduceLeDiff, Int.toNat_zero, Int.toNat_one]
    refine ⟨?_, Ext.refl _ _⟩
    unfold codeOf
    rw [if_pos (hc.1 rfl)]
  | false =>
    have hall : ¬ ∃ s ∈ vs, validB s = false := fun h => by simpa using hc.2 h
    simp (disch := first | omega | assumption | exact shr_lt (by assumption) | exact ndiff32 (by assumption) | exact below_lt (by omega) | fail) only [List.getD_cons_zero, List.getD_cons_succ, wBin_lss, wBin_leq, wBin_gtr, wBin_geq, wBin_eql, wBin_neq, wIf_bool, wGuard_true, wGuard_false, wPick_true, wPick_false, wUn_not, wFld_eq, wExt_eq, wPart_one, wPart_agg, wLen_slice, wLen_string, wNew_eq, wNm_eq, dBox_agg, dBox_int, dBox_slice, dBox_string, dBox_bool, dBox_map, dBox_ptr, oneCells, wLd_none, wLd_2, wLd_3, wLd_32, ldP_cells, ldP_rom, cellP_one, getH_same, getH_ne, forceV_eq, forceN_eq, hsK_eq, Option.elim_some, List.getElem?_cons_zero, List.getElem?_cons_succ, Yld.val, decide_true, decide_false, if_true, if_false, Bool.false_eq_true, Nat.zero_add, Nat.add_zero, and_true, true_and, or_false, Bool.not_true, Bool.not_false, and_self, wBin_add64, wBin_sub64, wIdx_slice, wIdx_array, wNilc_eq, Int.toNat_natCast, Nat.mul_one, Nat.zero_mul, wSt_agg, wSt_int, wSt_bool, wSt_string, wSt_slice, wSt_ptr, wSt_map, wSt_func, stP_cells, bit_one, bit_zero, bit_one', bit_zero', wBin_shr32, wBin_and1, wBin_rem2, wBin_andNot32, wBin_or32, wBin_and32, wBin_shl32, u32_eq_zero, u32_ne_zero, List.length_cons, List.length_nil, Nat.le_refl, Nat.reduceAdd, Nat.reduceMul, Nat.reduceLeDiff, Int.toNat_zero, Int.toNat_one]
    refine wCall_rule (values31 undef A vs.length cap H nx) ?_
    rintro _ _ _ ⟨rfl, rfl, rfl⟩
    have hX : Ext H nx (hs H nx (some (.cells [.slice A vs.length cap] 0))) (nx + 1) := (Ext.refl H nx).new _ (Nat.le_refl _) (by omega)
    refine wCall_rule (sortedA nx A vs cap _ (nx + 1) (getH_same _ _ _) (by omega) (hS.ext hX) (hA0.ext hX) hcap hl) ?_
    rintro v H2 n2 ⟨hacc, hE2⟩
    rw [← sortS_length vs] at hacc
    refine wCall_rule (compact32 (nx + 1) v (sortS vs) _ H2 n2 hacc hE2 (by rw [sortS_length]; exact hl)) ?_
    rintro _ H3 n3 ⟨⟨A', n, c', rfl, hn⟩, hE3⟩
    rw [sort_nodup, sortS_length] at hn
    by_cases hnd : vs.Nodup
    · have := hn.2 hnd
      subst this
      have d : decide ((vs.length : Int) ≠ (vs.length : Int)) = false := by simp
      simp (disch := first | omega | assumption | exact shr_lt (by assumption) | exact ndiff32 (by assumption) | exact below_lt (by omega) | fail) only [List.getD_cons_zero, List.getD_cons_succ, wBin_lss, wBin_leq, wBin_gtr, wBin_geq, wBin_eql, wBin_neq, wIf_bool, wGuard_true, wGuard_false, wPick_true, wPick_false, wUn_not, wFld_eq, wExt_eq, wPart_one, wPart_agg, wLen_slice, wLen_string, wNew_eq, wNm_eq, dBox_agg, dBox_int, dBox_slice, dBox_string, dBox_bool, dBox_map, dBox_ptr, oneCells, wLd_none, wLd_2, wLd_3, wLd_32, ldP_cells, ldP_rom, cellP_one, getH_same, getH_ne, forceV_eq, forceN_eq, hsK_eq, Option.elim_some, List.getElem?_cons_zero, List.getElem?_cons_succ, Yld.val, decide_true, decide_false, if_true, if_false, Bool.false_eq_true, Nat.zero_add, Nat.add_zero, and_true, true_and, or_false, Bool.not_true, Bool.not_false, and_self, wBin_add64, wBin_sub64, wIdx_slice, wIdx_array, wNilc_eq, Int.toNat_natCast, Nat.mul_one, Nat.zero_mul, wSt_agg, wSt_int, wSt_bool, wSt_string, wSt_slice, wSt_ptr, wSt_map, wSt_func, stP_cells, bit_one, bit_zero, bit_one', bit_zero', wBin_shr32, wBin_and1, wBin_rem2, wBin_andNot32, wBin_or32, wBin_and32, wBin_shl32, u32_eq_zero, u32_ne_zero, List.length_cons, List.length_nil, Nat.le_refl, Nat.reduceAdd, Nat.reduceMul, Nat.reduceLeDiff, Int.toNat_zero, Int.toNat_one, d]
      refine ⟨?_, hX.trans hE3⟩
      unfold codeOf
      rw [if_neg hall, if_pos hnd]
    · have hne : n ≠ vs.length := fun h => hnd (hn.1 h)
      have d : decide ((n : Int) ≠ (vs.length : Int)) = true := by simp; omega
      simp (disch := first | omega | assumption | exact shr_lt (by assumption) | exact ndiff32 (by assumption) | exact below_lt (by omega) | fail) only [List.getD_cons_zero, List.getD_cons_succ, wBin_lss, wBin_leq, wBin_gtr, wBin_geq, wBin_eql, wBin_neq, wIf_bool, wGuard_true, wGuard_false, wPick_true, wPick_false, wUn_not, wFld_eq, wExt_eq, wPart_one, wPart_agg, wLen_slice, wLen_string, wNew_eq, wNm_eq, dBox_agg, dBox_int, dBox_slice, dBox_string, dBox_bool, dBox_map, dBox_ptr, oneCells, wLd_none, wLd_2, wLd_3, wLd_32, ldP_cells, ldP_rom, cellP_one, getH_same, getH_ne, forceV_eq, forceN_eq, hsK_eq, Option.elim_some, List.getElem?_cons_zero, List.getElem?_cons_succ, Yld.val, decide_true, decide_false, if_true, if_false, Bool.false_eq_true, Nat.zero_add, Nat.add_zero, and_true, true_and, or_false, Bool.not_true, Bool.not_false, and_self, wBin_add64, wBin_sub64, wIdx_slice, wIdx_array, wNilc_eq, Int.toNat_natCast, Nat.mul_one, Nat.zero_mul, wSt_agg, wSt_int, wSt_bool, wSt_string, wSt_slice, wSt_ptr, wSt_map, wSt_func, stP_cells, bit_one, bit_zero, bit_one', bit_zero', wBin_shr32, wBin_and1, wBin_rem2, wBin_andNot32, wBin_or32, wBin_and32, wBin_shl32, u32_eq_zero, u32_ne_zero, List.length_cons, List.length_nil, Nat.le_refl, Nat.reduceAdd, Nat.reduceMul, Nat.reduceLeDiff, Int.toNat_zero, Int.toNat_one, d]
      refine ⟨?_, hX.trans hE3⟩
      unfold codeOf
      rw [if_neg hall, if_neg hnd]
end Go.Proofs.YtjpgddpobnjmkaaDoor
