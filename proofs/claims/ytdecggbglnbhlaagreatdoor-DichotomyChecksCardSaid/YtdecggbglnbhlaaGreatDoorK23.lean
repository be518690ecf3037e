/-
  Contracts: the reference's neighbors and Accepts; plain: what it says of the program's bags.
-/
import Derived.Test.YtdecggbglnbhlaaGreatDoorK19
import Derived.Test.YtdecggbglnbhlaaGreatDoorK21
import Derived.Test.YtdecggbglnbhlaaGreatDoorK22
set_option linter.unusedSimpArgs false
set_option linter.unusedVariables false
set_option linter.unusedSectionVars false
namespace Go.Proofs.YtdecggbglnbhlaaGreatDoor
open Go.Clo

def accO (v m e : Nat) : Nat := if e.testBit v then m ||| e else m
def accP (es : List Nat) (v : Nat) : Nat := es.foldl (accO v) 0
theorem accP_next {es : List Nat} {i e v : Nat} (h : es[i]? = some e) : accP (es.take (i + 1)) v = accO v (accP (es.take i) v) e := by
  unfold accP; rw [take_next h, List.foldl_append]; rfl
theorem accPF_bit (v w : Nat) : ∀ (es : List Nat) (m : Nat), (es.foldl (accO v) m).testBit w = (m.testBit w || es.any fun e => e.testBit v && e.testBit w)
  | [], m => by simp
  | e :: es, m => by
    rw [List.foldl_cons, accPF_bit v w es, List.any_cons, ← Bool.or_assoc]
    congr 1
    unfold accO
    split
    · rename_i h; rw [Nat.testBit_or, h, Bool.true_and]
    · rename_i h; simp at h; simp [h]
theorem accPF_lt (v : Nat) : ∀ (es : List Nat) (m : Nat), m < 4294967296 → Small es → es.foldl (accO v) m < 4294967296
  | [], m, hm, _ => hm
  | e :: es, m, hm, h => by
    rw [List.foldl_cons]
    refine accPF_lt v es _ ?_ fun x hx => h x (List.mem_cons_of_mem _ hx)
    unfold accO
    split
    · exact or32 hm (h e List.mem_cons_self)
    · exact hm
theorem accP_lt {es : List Nat} (h : Small es) (v : Nat) : accP es v < 4294967296 := accPF_lt v es 0 (by omega) h
theorem accP_nd {es : List Nat} {n : Nat} (h : ∀ e ∈ es, e < 2 ^ n) (v : Nat) : ndiff (accP es v) (2 ^ v) = maskOf (adj es v) n := by
  rw [← accA_eq h v]
  apply Nat.eq_of_testBit_eq
  intro w
  rw [ndiff_bit, accA_bit]
  unfold accP
  rw [accPF_bit, Nat.zero_testBit, Bool.false_or, Nat.testBit_two_pow]
  unfold adj
  by_cases hv : v = w
  · subst hv; simp
  · simp [hv]

/-- The list of the neighbors. -/
def nearL (N : Nb) (n : Nat) : List Nat := (List.range n).map fun v => maskOf (N v) n
theorem nearL_len (N : Nb) (n : Nat) : (nearL N n).length = n := by simp [nearL]
theorem nearL_get (N : Nb) {n v : Nat} (hv : v < n) : (nearL N n)[v]? = some (maskOf (N v) n) := by simp [nearL, hv]

theorem near34 {n : Nat} (hn : n ≤ 32) (A : Option Addr) (es : List Nat) (cap : Nat) (H : Heap) (nx : Nat) (hS : Sl H nx A (u32s es)) (hsm : ∀ e ∈ es, e < 2 ^ n) (hle : es.length ≤ 64) :
    Ans Tryz.prog 34 [.slice A es.length cap, .int .i64 (n : Int)] H nx fun r H' nx' => ∃ q, nx ≤ q ∧ q < nx' ∧ r = .slice (some ⟨q, 0, none⟩) n n ∧ getH H' q = some (.cells (u32s (nearL (adj es) n)) 0) ∧ Ext H nx H' nx' := by
  have hsm32 : Small es := fun e he => Nat.lt_of_lt_of_le (hsm e he) (Nat.le_trans (Nat.pow_le_pow_right (by omega) hn) (by decide))
  refine spec34 ?_
  unfold F34
  rw [dMsl_eq (by omega), repeat_u32]
  have hE1 : Ext H nx (hs H nx (some (.cells (u32s (List.replicate n 0)) 0))) (nx + 1) := (Ext.refl H nx).new _ (Nat.le_refl _) (by omega)
  simp (disch := first | omega | assumption | exact shr_lt (by assumption) | exact ndiff32 (by assumption) | exact below_lt (by omega) | fail) only [List.getD_cons_zero, List.getD_cons_succ, wBin_lss, wBin_leq, wBin_gtr, wBin_geq, wBin_eql, wBin_neq, wIf_bool, wGuard_true, wGuard_false, wPick_true, wPick_false, wUn_not, wFld_eq, wExt_eq, wPart_one, wPart_agg, wLen_slice, wLen_string, wNew_eq, wNm_eq, dBox_agg, dBox_int, dBox_slice, dBox_string, dBox_bool, dBox_map, dBox_ptr, oneCells, wLd_none, wLd_2, wLd_3, wLd_32, ldP_cells, ldP_rom, cellP_one, getH_same, getH_ne, forceV_eq, forceN_eq, hsK_eq, Option.elim_some, List.getElem?_cons_zero, List.getElem?_cons_succ, Yld.val, decide_true, decide_false, if_true, if_false, Bool.false_eq_true, Nat.zero_add, Nat.add_zero, and_true, true_and, or_false, Bool.not_true, Bool.not_false, and_self, wBin_add64, wBin_sub64, wIdx_slice, wIdx_array, wNilc_eq, Int.toNat_natCast, Nat.mul_one, Nat.zero_mul, wSt_agg, wSt_int, wSt_bool, wSt_string, wSt_slice, wSt_ptr, wSt_map, wSt_func, stP_cells, bit_one, bit_zero, bit_one', bit_zero', wBin_shr32, wBin_and1, wBin_rem2, wBin_andNot32, wBin_or32, wBin_and32, wBin_shl32, u32_eq_zero, u32_ne_zero, List.length_cons, List.length_nil, Nat.le_refl, Nat.reduceAdd, Nat.reduceMul, Nat.reduceLeDiff, Int.toNat_zero, Int.toNat_one]
  refine wLoop_rule (m := n) (fun m L H' nx' => ∃ (i : Nat) (l : List Nat), m + i = n ∧ L = [.int .i64 (i : Int)] ∧ l.length = n ∧ (∀ v, v < n → l[v]? = some (if v < i then maskOf (adj es v) n else 0)) ∧ getH H' nx = some (.cells (u32s l) 0) ∧ Ext H nx H' nx' ∧ nx < nx') ?_ ⟨0, List.replicate n 0, rfl, rfl, by simp, fun v hv => by rw [List.getElem?_replicate, if_pos hv]; simp, getH_same _ _ _, hE1, by omega⟩
  rintro m ih L H2 nx2 ⟨i, l, hm, rfl, hl, hval, hg, hE2, hnx2⟩ hih
  simp (disch := first | omega | assumption | exact shr_lt (by assumption) | exact ndiff32 (by assumption) | exact below_lt (by omega) | fail) only [List.getD_cons_zero, List.getD_cons_succ, wBin_lss, wBin_leq, wBin_gtr, wBin_geq, wBin_eql, wBin_neq, wIf_bool, wGuard_true, wGuard_false, wPick_true, wPick_false, wUn_not, wFld_eq, wExt_eq, wPart_one, wPart_agg, wLen_slice, wLen_string, wNew_eq, wNm_eq, dBox_agg, dBox_int, dBox_slice, dBox_string, dBox_bool, dBox_map, dBox_ptr, oneCells, wLd_none, wLd_2, wLd_3, wLd_32, ldP_cells, ldP_rom, cellP_one, getH_same, getH_ne, forceV_eq, forceN_eq, hsK_eq, Option.elim_some, List.getElem?_cons_zero, List.getElem?_cons_succ, Yld.val, decide_true, decide_false, if_true, if_false, Bool.false_eq_true, Nat.zero_add, Nat.add_zero, and_true, true_and, or_false, Bool.not_true, Bool.not_false, and_self, wBin_add64, wBin_sub64, wIdx_slice, wIdx_array, wNilc_eq, Int.toNat_natCast, Nat.mul_one, Nat.zero_mul, wSt_agg, wSt_int, wSt_bool, wSt_string, wSt_slice, wSt_ptr, wSt_map, wSt_func, stP_cells, bit_one, bit_zero, bit_one', bit_zero', wBin_shr32, wBin_and1, wBin_rem2, wBin_andNot32, wBin_or32, wBin_and32, wBin_shl32, u32_eq_zero, u32_ne_zero, List.length_cons, List.length_nil, Nat.le_refl, Nat.reduceAdd, Nat.reduceMul, Nat.reduceLeDiff, Int.toNat_zero, Int.toNat_one]
  by_cases hi : i < n
  case neg =>
    have hi' : ¬ (i : Int) < (n : Int) := by omega
    have hll : l = nearL (adj es) n := by
      apply List.ext_getElem?
      intro v
      by_cases hv : v < n
      · rw [hval v hv, nearL_get _ hv, if_pos (by omega)]
      · rw [List.getElem?_eq_none (by omega), List.getElem?_eq_none (by rw [nearL_len]; omega)]
    subst hll
    simp (disch := first | omega | assumption | exact shr_lt (by assumption) | exact ndiff32 (by assumption) | exact below_lt (by omega) | fail) only [List.getD_cons_zero, List.getD_cons_succ, wBin_lss, wBin_leq, wBin_gtr, wBin_geq, wBin_eql, wBin_neq, wIf_bool, wGuard_true, wGuard_false, wPick_true, wPick_false, wUn_not, wFld_eq, wExt_eq, wPart_one, wPart_agg, wLen_slice, wLen_string, wNew_eq, wNm_eq, dBox_agg, dBox_int, dBox_slice, dBox_string, dBox_bool, dBox_map, dBox_ptr, oneCells, wLd_none, wLd_2, wLd_3, wLd_32, ldP_cells, ldP_rom, cellP_one, getH_same, getH_ne, forceV_eq, forceN_eq, hsK_eq, Option.elim_some, List.getElem?_cons_zero, List.getElem?_cons_succ, Yld.val, decide_true, decide_false, if_true, if_false, Bool.false_eq_true, Nat.zero_add, Nat.add_zero, and_true, true_and, or_false, Bool.not_true, Bool.not_false, and_self, wBin_add64, wBin_sub64, wIdx_slice, wIdx_array, wNilc_eq, Int.toNat_natCast, Nat.mul_one, Nat.zero_mul, wSt_agg, wSt_int, wSt_bool, wSt_string, wSt_slice, wSt_ptr, wSt_map, wSt_func, stP_cells, bit_one, bit_zero, bit_one', bit_zero', wBin_shr32, wBin_and1, wBin_rem2, wBin_andNot32, wBin_or32, wBin_and32, wBin_shl32, u32_eq_zero, u32_ne_zero, List.length_cons, List.length_nil, Nat.le_refl, Nat.reduceAdd, Nat.reduceMul, Nat.reduceLeDiff, Int.toNat_zero, Int.toNat_one, hi']
    exact ⟨nx, Nat.le_refl _, hnx2, rfl, hg, hE2⟩
  have hi' : (i : Int) < (n : Int) := by omega
  simp (disch := first | omega | assumption | exact shr_lt (by assumption) | exact ndiff32 (by assumption) | exact below_lt (by omega) | fail) only [List.getD_cons_zero, List.getD_cons_succ, wBin_lss, wBin_leq, wBin_gtr, wBin_geq, wBin_eql, wBin_neq, wIf_bool, wGuard_true, wGuard_false, wPick_true, wPick_false, wUn_not, wFld_eq, wExt_eq, wPart_one, wPart_agg, wLen_slice, wLen_string, wNew_eq, wNm_eq, dBox_agg, dBox_int, dBox_slice, dBox_string, dBox_bool, dBox_map, dBox_ptr, oneCells, wLd_none, wLd_2, wLd_3, wLd_32, ldP_cells, ldP_rom, cellP_one, getH_same, getH_ne, forceV_eq, forceN_eq, hsK_eq, Option.elim_some, List.getElem?_cons_zero, List.getElem?_cons_succ, Yld.val, decide_true, decide_false, if_true, if_false, Bool.false_eq_true, Nat.zero_add, Nat.add_zero, and_true, true_and, or_false, Bool.not_true, Bool.not_false, and_self, wBin_add64, wBin_sub64, wIdx_slice, wIdx_array, wNilc_eq, Int.toNat_natCast, Nat.mul_one, Nat.zero_mul, wSt_agg, wSt_int, wSt_bool, wSt_string, wSt_slice, wSt_ptr, wSt_map, wSt_func, stP_cells, bit_one, bit_zero, bit_one', bit_zero', wBin_shr32, wBin_and1, wBin_rem2, wBin_andNot32, wBin_or32, wBin_and32, wBin_shl32, u32_eq_zero, u32_ne_zero, List.length_cons, List.length_nil, Nat.le_refl, Nat.reduceAdd, Nat.reduceMul, Nat.reduceLeDiff, Int.toNat_zero, Int.toNat_one, hi']
  refine wLoop_rule (m := es.length) (fun m L H' nx' => ∃ (j : Nat) (l : List Nat), m + j = es.length ∧ L = [.int .i64 (j : Int)] ∧ l.length = n ∧ (∀ v, v < n → l[v]? = some (if v < i then maskOf (adj es v) n else if v = i then accP (es.take j) i else 0)) ∧ getH H' nx = some (.cells (u32s l) 0) ∧ Ext H nx H' nx' ∧ nx < nx') ?_
    ⟨0, l, rfl, rfl, hl, fun v hv => by rw [hval v hv]; simp [accP], hg, hE2, hnx2⟩
  rintro m3 ih3 L3 H3 nx3 ⟨j, l3, hm3, rfl, hl3, hval3, hg3, hE3, hnx3⟩ hih3
  have hcur : l3[i]? = some (accP (es.take j) i) := by rw [hval3 i hi, if_neg (by omega), if_pos rfl]
  have hlen3 : (u32s l3).length = n := by rw [u32s_length]; exact hl3
  have hacc := accP_lt (small_take hsm32 j) i
  have gc := u32s_get hcur
  have hil : i < l3.length := by omega
  have setG : ∀ x (y : Nat → Nat), (∀ v, v < n → v ≠ i → (if v < i then maskOf (adj es v) n else if v = i then accP (es.take j) i else 0) = y v) → x = y i → ∀ v, v < n → (l3.set i x)[v]? = some (y v) := by
    intro x y h1 h2 v hv
    rw [List.getElem?_set]
    by_cases hvi : i = v
    · subst hvi; rw [if_pos rfl, if_pos (by omega), h2]
    · rw [if_neg hvi, hval3 v hv, h1 v hv (fun h => hvi h.symm)]
  simp (disch := first | omega | assumption | exact shr_lt (by assumption) | exact ndiff32 (by assumption) | exact below_lt (by omega) | fail) only [List.getD_cons_zero, List.getD_cons_succ, wBin_lss, wBin_leq, wBin_gtr, wBin_geq, wBin_eql, wBin_neq, wIf_bool, wGuard_true, wGuard_false, wPick_true, wPick_false, wUn_not, wFld_eq, wExt_eq, wPart_one, wPart_agg, wLen_slice, wLen_string, wNew_eq, wNm_eq, dBox_agg, dBox_int, dBox_slice, dBox_string, dBox_bool, dBox_map, dBox_ptr, oneCells, wLd_none, wLd_2, wLd_3, wLd_32, ldP_cells, ldP_rom, cellP_one, getH_same, getH_ne, forceV_eq, forceN_eq, hsK_eq, Option.elim_some, List.getElem?_cons_zero, List.getElem?_cons_succ, Yld.val, decide_true, decide_false, if_true, if_false, Bool.false_eq_true, Nat.zero_add, Nat.add_zero, and_true, true_and, or_false, Bool.not_true, Bool.not_false, and_self, wBin_add64, wBin_sub64, wIdx_slice, wIdx_array, wNilc_eq, Int.toNat_natCast, Nat.mul_one, Nat.zero_mul, wSt_agg, wSt_int, wSt_bool, wSt_string, wSt_slice, wSt_ptr, wSt_map, wSt_func, stP_cells, bit_one, bit_zero, bit_one', bit_zero', wBin_shr32, wBin_and1, wBin_rem2, wBin_andNot32, wBin_or32, wBin_and32, wBin_shl32, u32_eq_zero, u32_ne_zero, List.length_cons, List.length_nil, Nat.le_refl, Nat.reduceAdd, Nat.reduceMul, Nat.reduceLeDiff, Int.toNat_zero, Int.toNat_one]
  by_cases hj : j < es.length
  case neg =>
    have hj' : ¬ (j : Int) < (es.length : Int) := by omega
    have hp : 2 ^ i < 4294967296 := pow32 (by omega)
    rw [take_all hj] at gc hcur hacc
    simp (disch := first | omega | assumption | exact shr_lt (by assumption) | exact ndiff32 (by assumption) | exact below_lt (by omega) | fail) only [List.getD_cons_zero, List.getD_cons_succ, wBin_lss, wBin_leq, wBin_gtr, wBin_geq, wBin_eql, wBin_neq, wIf_bool, wGuard_true, wGuard_false, wPick_true, wPick_false, wUn_not, wFld_eq, wExt_eq, wPart_one, wPart_agg, wLen_slice, wLen_string, wNew_eq, wNm_eq, dBox_agg, dBox_int, dBox_slice, dBox_string, dBox_bool, dBox_map, dBox_ptr, oneCells, wLd_none, wLd_2, wLd_3, wLd_32, ldP_cells, ldP_rom, cellP_one, getH_same, getH_ne, forceV_eq, forceN_eq, hsK_eq, Option.elim_some, List.getElem?_cons_zero, List.getElem?_cons_succ, Yld.val, decide_true, decide_false, if_true, if_false, Bool.false_eq_true, Nat.zero_add, Nat.add_zero, and_true, true_and, or_false, Bool.not_true, Bool.not_false, and_self, wBin_add64, wBin_sub64, wIdx_slice, wIdx_array, wNilc_eq, Int.toNat_natCast, Nat.mul_one, Nat.zero_mul, wSt_agg, wSt_int, wSt_bool, wSt_string, wSt_slice, wSt_ptr, wSt_map, wSt_func, stP_cells, bit_one, bit_zero, bit_one', bit_zero', wBin_shr32, wBin_and1, wBin_rem2, wBin_andNot32, wBin_or32, wBin_and32, wBin_shl32, u32_eq_zero, u32_ne_zero, List.length_cons, List.length_nil, Nat.le_refl, Nat.reduceAdd, Nat.reduceMul, Nat.reduceLeDiff, Int.toNat_zero, Int.toNat_one, hj', hg3, gc, wConv_u64, putL_u32s hil, hlen3]
    refine ⟨by omega, hih (m - 1) _ _ _ (by omega) ⟨i + 1, l3.set i (ndiff (accP es i) (2 ^ i)), by omega, by simp, by rw [List.length_set]; exact hl3, ?_, by rw [getH_same], hE3.hs (Nat.le_refl _), hnx3⟩⟩
    refine setG _ (fun v => if v < i + 1 then maskOf (adj es v) n else 0) (fun v hv hvi => ?_) ?_
    · by_cases h1 : v < i
      · rw [if_pos h1, if_pos (by omega)]
      · rw [if_neg h1, if_neg hvi, if_neg (by omega)]
    · rw [if_pos (by omega), accP_nd hsm]
  have hj' : (j : Int) < (es.length : Int) := by omega
  obtain ⟨e, he⟩ : ∃ e, es[j]? = some e := ⟨_, List.getElem?_eq_getElem hj⟩
  obtain ⟨b, o, row, rfl, hb, hrow, hget⟩ := (hS.ext hE3).open (i := j) (by rw [u32s_length]; omega)
  have he32 := hsm32.get he
  have g0 := hget _ _ (u32s_get he)
  have hbq : b ≠ nx := by
    obtain ⟨b', o', row', e1, hb', _⟩ := hS.open (i := j) (by rw [u32s_length]; omega)
    cases e1
    omega
  simp (disch := first | omega | assumption | exact shr_lt (by assumption) | exact ndiff32 (by assumption) | exact below_lt (by omega) | fail) only [List.getD_cons_zero, List.getD_cons_succ, wBin_lss, wBin_leq, wBin_gtr, wBin_geq, wBin_eql, wBin_neq, wIf_bool, wGuard_true, wGuard_false, wPick_true, wPick_false, wUn_not, wFld_eq, wExt_eq, wPart_one, wPart_agg, wLen_slice, wLen_string, wNew_eq, wNm_eq, dBox_agg, dBox_int, dBox_slice, dBox_string, dBox_bool, dBox_map, dBox_ptr, oneCells, wLd_none, wLd_2, wLd_3, wLd_32, ldP_cells, ldP_rom, cellP_one, getH_same, getH_ne, forceV_eq, forceN_eq, hsK_eq, Option.elim_some, List.getElem?_cons_zero, List.getElem?_cons_succ, Yld.val, decide_true, decide_false, if_true, if_false, Bool.false_eq_true, Nat.zero_add, Nat.add_zero, and_true, true_and, or_false, Bool.not_true, Bool.not_false, and_self, wBin_add64, wBin_sub64, wIdx_slice, wIdx_array, wNilc_eq, Int.toNat_natCast, Nat.mul_one, Nat.zero_mul, wSt_agg, wSt_int, wSt_bool, wSt_string, wSt_slice, wSt_ptr, wSt_map, wSt_func, stP_cells, bit_one, bit_zero, bit_one', bit_zero', wBin_shr32, wBin_and1, wBin_rem2, wBin_andNot32, wBin_or32, wBin_and32, wBin_shl32, u32_eq_zero, u32_ne_zero, List.length_cons, List.length_nil, Nat.le_refl, Nat.reduceAdd, Nat.reduceMul, Nat.reduceLeDiff, Int.toNat_zero, Int.toNat_one, hj', ldP_row hrow, g0, wJoin_eq]
  refine wCall_rule (has36 he32 (by omega) _ _) ?_
  rintro _ _ _ ⟨rfl, rfl, rfl⟩
  cases hbit : e.testBit i with
  | false =>
    simp (disch := first | omega | assumption | exact shr_lt (by assumption) | exact ndiff32 (by assumption) | exact below_lt (by omega) | fail) only [List.getD_cons_zero, List.getD_cons_succ, wBin_lss, wBin_leq, wBin_gtr, wBin_geq, wBin_eql, wBin_neq, wIf_bool, wGuard_true, wGuard_false, wPick_true, wPick_false, wUn_not, wFld_eq, wExt_eq, wPart_one, wPart_agg, wLen_slice, wLen_string, wNew_eq, wNm_eq, dBox_agg, dBox_int, dBox_slice, dBox_string, dBox_bool, dBox_map, dBox_ptr, oneCells, wLd_none, wLd_2, wLd_3, wLd_32, ldP_cells, ldP_rom, cellP_one, getH_same, getH_ne, forceV_eq, forceN_eq, hsK_eq, Option.elim_some, List.getElem?_cons_zero, List.getElem?_cons_succ, Yld.val, decide_true, decide_false, if_true, if_false, Bool.false_eq_true, Nat.zero_add, Nat.add_zero, and_true, true_and, or_false, Bool.not_true, Bool.not_false, and_self, wBin_add64, wBin_sub64, wIdx_slice, wIdx_array, wNilc_eq, Int.toNat_natCast, Nat.mul_one, Nat.zero_mul, wSt_agg, wSt_int, wSt_bool, wSt_string, wSt_slice, wSt_ptr, wSt_map, wSt_func, stP_cells, bit_one, bit_zero, bit_one', bit_zero', wBin_shr32, wBin_and1, wBin_rem2, wBin_andNot32, wBin_or32, wBin_and32, wBin_shl32, u32_eq_zero, u32_ne_zero, List.length_cons, List.length_nil, Nat.le_refl, Nat.reduceAdd, Nat.reduceMul, Nat.reduceLeDiff, Int.toNat_zero, Int.toNat_one]
    refine hih3 (m3 - 1) _ _ _ (by omega) ⟨j + 1, l3, by omega, by simp, hl3, fun v hv => ?_, hg3, hE3, hnx3⟩
    rw [hval3 v hv]
    by_cases h1 : v = i
    · subst h1; rw [if_neg (by omega), if_pos rfl, if_neg (by omega), if_pos rfl, accP_next he, accO, if_neg (by simp [hbit])]
    · rw [if_neg h1, if_neg h1]
  | true =>
    simp (disch := first | omega | assumption | exact shr_lt (by assumption) | exact ndiff32 (by assumption) | exact below_lt (by omega) | fail) only [List.getD_cons_zero, List.getD_cons_succ, wBin_lss, wBin_leq, wBin_gtr, wBin_geq, wBin_eql, wBin_neq, wIf_bool, wGuard_true, wGuard_false, wPick_true, wPick_false, wUn_not, wFld_eq, wExt_eq, wPart_one, wPart_agg, wLen_slice, wLen_string, wNew_eq, wNm_eq, dBox_agg, dBox_int, dBox_slice, dBox_string, dBox_bool, dBox_map, dBox_ptr, oneCells, wLd_none, wLd_2, wLd_3, wLd_32, ldP_cells, ldP_rom, cellP_one, getH_same, getH_ne, forceV_eq, forceN_eq, hsK_eq, Option.elim_some, List.getElem?_cons_zero, List.getElem?_cons_succ, Yld.val, decide_true, decide_false, if_true, if_false, Bool.false_eq_true, Nat.zero_add, Nat.add_zero, and_true, true_and, or_false, Bool.not_true, Bool.not_false, and_self, wBin_add64, wBin_sub64, wIdx_slice, wIdx_array, wNilc_eq, Int.toNat_natCast, Nat.mul_one, Nat.zero_mul, wSt_agg, wSt_int, wSt_bool, wSt_string, wSt_slice, wSt_ptr, wSt_map, wSt_func, stP_cells, bit_one, bit_zero, bit_one', bit_zero', wBin_shr32, wBin_and1, wBin_rem2, wBin_andNot32, wBin_or32, wBin_and32, wBin_shl32, u32_eq_zero, u32_ne_zero, List.length_cons, List.length_nil, Nat.le_refl, Nat.reduceAdd, Nat.reduceMul, Nat.reduceLeDiff, Int.toNat_zero, Int.toNat_one, hg3, gc, ldP_row hrow, g0, putL_u32s hil, hlen3]
    refine ⟨by omega, hih3 (m3 - 1) _ _ _ (by omega) ⟨j + 1, l3.set i (accP (es.take j) i ||| e), by omega, by simp, by rw [List.length_set]; exact hl3, ?_, by rw [getH_same], (hE3.hs (Nat.le_refl _)).more (by omega), by omega⟩⟩
    refine setG _ (fun v => if v < i then maskOf (adj es v) n else if v = i then accP (es.take (j + 1)) i else 0) (fun v hv hvi => ?_) ?_
    · rw [if_neg hvi, if_neg hvi]
    · rw [if_neg (by omega), if_pos rfl, accP_next he, accO, if_pos hbit]
end Go.Proofs.YtdecggbglnbhlaaGreatDoor
