/-
  The law DichotomyInversions returns true.
-/
import Derived.Test.YtdecggbglnbhlaaGreatDoorI1
import Derived.Test.YtdecggbglnbhlaaGreatDoorAwz
set_option linter.unusedSimpArgs false
set_option linter.unusedVariables false
set_option linter.unusedSectionVars false
namespace Go.Proofs.YtdecggbglnbhlaaGreatDoor
open Go.Clo Go.Inv

theorem swap_eq {l : List Int} {k : Nat} {x y : Int} (hx : l[k]? = some x) (hy : l[k + 1]? = some y) : l = l.take k ++ x :: y :: l.drop (k + 2) ∧ (l.set k y).set (k + 1) x = l.take k ++ y :: x :: l.drop (k + 2) := by
  have h1 : l = l.take k ++ x :: y :: l.drop (k + 2) := by
    conv => lhs; rw [← List.take_append_drop k l, drop_cons hx, drop_cons hy]
  refine ⟨h1, ?_⟩
  have hk : (l.take k).length = k := by
    rw [List.length_take]
    have := (List.getElem?_eq_some_iff.1 hx).1
    omega
  generalize l.take k = a at h1 hk
  generalize l.drop (k + 2) = b at h1
  subst h1
  rw [List.set_append_right _ _ (by omega), hk, Nat.sub_self, List.set_cons_zero, List.set_append_right _ _ (by omega), hk]
  have : k + 1 - k = 1 := by omega
  rw [this]; rfl
theorem swap_inv {l : List Int} {k : Nat} {x y : Int} (hx : l[k]? = some x) (hy : l[k + 1]? = some y) (h : x < y) : inv ((l.set k y).set (k + 1) x) = inv l + 1 := by
  obtain ⟨h1, h2⟩ := swap_eq hx hy
  rw [h2, inv_swap h, ← h1]

set_option maxHeartbeats 4000000 in
theorem law4 (A : Option Addr) (l : List Int) (cap x : Nat) (H : Heap) (nx : Nat) (hS : Sl H nx A (i64s l)) (hA0 : Has H nx A) (hx : x < 256) :
    Ans Tryz.prog 4 [.slice A l.length cap, .int .u8 (x : Int)] H nx fun v _ _ => v = .bool true := by
  refine spec4 ?_
  unfold F4
  refine wCall_rule (awake6 H nx) ?_
  rintro _ _ _ ⟨rfl, rfl, rfl⟩
  by_cases h40 : 40 < l.length
  · have d : (40 : Int) < (l.length : Int) := by omega
    simp (disch := first | omega | assumption | exact shr_lt (by assumption) | exact ndiff32 (by assumption) | exact below_lt (by omega) | fail) only [List.getD_cons_zero, List.getD_cons_succ, wBin_lss, wBin_leq, wBin_gtr, wBin_geq, wBin_eql, wBin_neq, wIf_bool, wGuard_true, wGuard_false, wPick_true, wPick_false, wUn_not, wFld_eq, wExt_eq, wPart_one, wPart_agg, wLen_slice, wLen_string, wNew_eq, wNm_eq, dBox_agg, dBox_int, dBox_slice, dBox_string, dBox_bool, dBox_map, dBox_ptr, oneCells, wLd_none, wLd_2, wLd_3, wLd_32, ldP_cells, ldP_rom, cellP_one, getH_same, getH_ne, forceV_eq, forceN_eq, hsK_eq, Option.elim_some, List.getElem?_cons_zero, List.getElem?_cons_succ, Yld.val, decide_true, decide_false, if_true, if_false, Bool.false_eq_true, Nat.zero_add, Nat.add_zero, and_true, true_and, or_false, Bool.not_true, Bool.not_false, and_self, wBin_add64, wBin_sub64, wIdx_slice, wIdx_array, wNilc_eq, Int.toNat_natCast, Nat.mul_one, Nat.zero_mul, wSt_agg, wSt_int, wSt_bool, wSt_string, wSt_slice, wSt_ptr, wSt_map, wSt_func, stP_cells, bit_one, bit_zero, bit_one', bit_zero', wBin_shr32, wBin_and1, wBin_rem2, wBin_andNot32, wBin_or32, wBin_and32, wBin_shl32, u32_eq_zero, u32_ne_zero, List.length_cons, List.length_nil, Nat.le_refl, Nat.reduceAdd, Nat.reduceMul, Nat.reduceLeDiff, Int.toNat_zero, Int.toNat_one, d]
  have d : ¬ (40 : Int) < (l.length : Int) := by omega
  have hinv := inv_le l
  have hsq : l.length * l.length ≤ 40 * 40 := Nat.mul_le_mul (by omega) (by omega)
  simp (disch := first | omega | assumption | exact shr_lt (by assumption) | exact ndiff32 (by assumption) | exact below_lt (by omega) | fail) only [List.getD_cons_zero, List.getD_cons_succ, wBin_lss, wBin_leq, wBin_gtr, wBin_geq, wBin_eql, wBin_neq, wIf_bool, wGuard_true, wGuard_false, wPick_true, wPick_false, wUn_not, wFld_eq, wExt_eq, wPart_one, wPart_agg, wLen_slice, wLen_string, wNew_eq, wNm_eq, dBox_agg, dBox_int, dBox_slice, dBox_string, dBox_bool, dBox_map, dBox_ptr, oneCells, wLd_none, wLd_2, wLd_3, wLd_32, ldP_cells, ldP_rom, cellP_one, getH_same, getH_ne, forceV_eq, forceN_eq, hsK_eq, Option.elim_some, List.getElem?_cons_zero, List.getElem?_cons_succ, Yld.val, decide_true, decide_false, if_true, if_false, Bool.false_eq_true, Nat.zero_add, Nat.add_zero, and_true, true_and, or_false, Bool.not_true, Bool.not_false, and_self, wBin_add64, wBin_sub64, wIdx_slice, wIdx_array, wNilc_eq, Int.toNat_natCast, Nat.mul_one, Nat.zero_mul, wSt_agg, wSt_int, wSt_bool, wSt_string, wSt_slice, wSt_ptr, wSt_map, wSt_func, stP_cells, bit_one, bit_zero, bit_one', bit_zero', wBin_shr32, wBin_and1, wBin_rem2, wBin_andNot32, wBin_or32, wBin_and32, wBin_shl32, u32_eq_zero, u32_ne_zero, List.length_cons, List.length_nil, Nat.le_refl, Nat.reduceAdd, Nat.reduceMul, Nat.reduceLeDiff, Int.toNat_zero, Int.toNat_one, d]
  refine wCall_rule (inv14 A l cap H nx hS hA0 (by omega)) ?_
  rintro _ H2 n2 ⟨rfl, hE2⟩
  refine wCall_rule (ref13 A l cap H2 n2 (hS.ext hE2) (by omega)) ?_
  rintro _ _ n3 ⟨rfl, rfl, hn3⟩
  have c0 : decide (((inv l : Nat) : Int) ≠ ((inv l : Nat) : Int)) = false := by simp
  have hE3 : Ext H nx H2 n3 := hE2.more hn3
  by_cases h2 : l.length < 2
  · have d2 : (l.length : Int) < 2 := by omega
    simp (disch := first | omega | assumption | exact shr_lt (by assumption) | exact ndiff32 (by assumption) | exact below_lt (by omega) | fail) only [List.getD_cons_zero, List.getD_cons_succ, wBin_lss, wBin_leq, wBin_gtr, wBin_geq, wBin_eql, wBin_neq, wIf_bool, wGuard_true, wGuard_false, wPick_true, wPick_false, wUn_not, wFld_eq, wExt_eq, wPart_one, wPart_agg, wLen_slice, wLen_string, wNew_eq, wNm_eq, dBox_agg, dBox_int, dBox_slice, dBox_string, dBox_bool, dBox_map, dBox_ptr, oneCells, wLd_none, wLd_2, wLd_3, wLd_32, ldP_cells, ldP_rom, cellP_one, getH_same, getH_ne, forceV_eq, forceN_eq, hsK_eq, Option.elim_some, List.getElem?_cons_zero, List.getElem?_cons_succ, Yld.val, decide_true, decide_false, if_true, if_false, Bool.false_eq_true, Nat.zero_add, Nat.add_zero, and_true, true_and, or_false, Bool.not_true, Bool.not_false, and_self, wBin_add64, wBin_sub64, wIdx_slice, wIdx_array, wNilc_eq, Int.toNat_natCast, Nat.mul_one, Nat.zero_mul, wSt_agg, wSt_int, wSt_bool, wSt_string, wSt_slice, wSt_ptr, wSt_map, wSt_func, stP_cells, bit_one, bit_zero, bit_one', bit_zero', wBin_shr32, wBin_and1, wBin_rem2, wBin_andNot32, wBin_or32, wBin_and32, wBin_shl32, u32_eq_zero, u32_ne_zero, List.length_cons, List.length_nil, Nat.le_refl, Nat.reduceAdd, Nat.reduceMul, Nat.reduceLeDiff, Int.toNat_zero, Int.toNat_one, c0, d2]
  have d2 : ¬ (l.length : Int) < 2 := by omega
  obtain ⟨n, hn⟩ : ∃ n, l.length = n + 1 := ⟨l.length - 1, by omega⟩
  have hmod : x % n < n := Nat.mod_lt _ (by omega)
  obtain ⟨k, hk⟩ : ∃ k, x % n = k := ⟨_, rfl⟩
  rw [hk] at hmod
  have e1 : IntKind.i64.wrap (x : Int) = (x : Int) := i64_id (by omega) (by omega)
  have e2 : ((l.length : Nat) : Int) - 1 = (n : Int) := by omega
  have e3 : (x : Int).tmod (n : Int) = (k : Int) := by rw [← hk]; rfl
  have rem := fun kk => wBin_rem .i64 (x : Int) (n : Int) kk (by omega)
  have e4 : (k : Int) + 1 = ((k + 1 : Nat) : Int) := by omega
  have hu : l[k]? = some (l[k]'(by omega)) := List.getElem?_eq_getElem (by omega)
  have hv : l[k + 1]? = some (l[k + 1]'(by omega)) := List.getElem?_eq_getElem (by omega)
  generalize (l[k]'(by omega)) = u at hu
  generalize (l[k + 1]'(by omega)) = v at hv
  obtain ⟨b, o, row, rfl, hb, hrow, hget⟩ := (hS.ext hE3).open (i := 0) (by rw [i64s_length]; omega)
  have hk1 : (k : Int) < (l.length : Int) := by omega
  have hk2 : ((k + 1 : Nat) : Int) < (l.length : Int) := by omega
  by_cases huv : v ≤ u
  · simp (disch := first | omega | assumption | exact shr_lt (by assumption) | exact ndiff32 (by assumption) | exact below_lt (by omega) | fail) only [List.getD_cons_zero, List.getD_cons_succ, wBin_lss, wBin_leq, wBin_gtr, wBin_geq, wBin_eql, wBin_neq, wIf_bool, wGuard_true, wGuard_false, wPick_true, wPick_false, wUn_not, wFld_eq, wExt_eq, wPart_one, wPart_agg, wLen_slice, wLen_string, wNew_eq, wNm_eq, dBox_agg, dBox_int, dBox_slice, dBox_string, dBox_bool, dBox_map, dBox_ptr, oneCells, wLd_none, wLd_2, wLd_3, wLd_32, ldP_cells, ldP_rom, cellP_one, getH_same, getH_ne, forceV_eq, forceN_eq, hsK_eq, Option.elim_some, List.getElem?_cons_zero, List.getElem?_cons_succ, Yld.val, decide_true, decide_false, if_true, if_false, Bool.false_eq_true, Nat.zero_add, Nat.add_zero, and_true, true_and, or_false, Bool.not_true, Bool.not_false, and_self, wBin_add64, wBin_sub64, wIdx_slice, wIdx_array, wNilc_eq, Int.toNat_natCast, Nat.mul_one, Nat.zero_mul, wSt_agg, wSt_int, wSt_bool, wSt_string, wSt_slice, wSt_ptr, wSt_map, wSt_func, stP_cells, bit_one, bit_zero, bit_one', bit_zero', wBin_shr32, wBin_and1, wBin_rem2, wBin_andNot32, wBin_or32, wBin_and32, wBin_shl32, u32_eq_zero, u32_ne_zero, List.length_cons, List.length_nil, Nat.le_refl, Nat.reduceAdd, Nat.reduceMul, Nat.reduceLeDiff, Int.toNat_zero, Int.toNat_one, c0, d2, wConv_eq, e1, e2, rem, e3, e4, hk1, hk2, ldP_row hrow, hget _ _ (i64s_get hu), hget _ _ (i64s_get hv), huv]
  · simp (disch := first | omega | assumption | exact shr_lt (by assumption) | exact ndiff32 (by assumption) | exact below_lt (by omega) | fail) only [List.getD_cons_zero, List.getD_cons_succ, wBin_lss, wBin_leq, wBin_gtr, wBin_geq, wBin_eql, wBin_neq, wIf_bool, wGuard_true, wGuard_false, wPick_true, wPick_false, wUn_not, wFld_eq, wExt_eq, wPart_one, wPart_agg, wLen_slice, wLen_string, wNew_eq, wNm_eq, dBox_agg, dBox_int, dBox_slice, dBox_string, dBox_bool, dBox_map, dBox_ptr, oneCells, wLd_none, wLd_2, wLd_3, wLd_32, ldP_cells, ldP_rom, cellP_one, getH_same, getH_ne, forceV_eq, forceN_eq, hsK_eq, Option.elim_some, List.getElem?_cons_zero, List.getElem?_cons_succ, Yld.val, decide_true, decide_false, if_true, if_false, Bool.false_eq_true, Nat.zero_add, Nat.add_zero, and_true, true_and, or_false, Bool.not_true, Bool.not_false, and_self, wBin_add64, wBin_sub64, wIdx_slice, wIdx_array, wNilc_eq, Int.toNat_natCast, Nat.mul_one, Nat.zero_mul, wSt_agg, wSt_int, wSt_bool, wSt_string, wSt_slice, wSt_ptr, wSt_map, wSt_func, stP_cells, bit_one, bit_zero, bit_one', bit_zero', wBin_shr32, wBin_and1, wBin_rem2, wBin_andNot32, wBin_or32, wBin_and32, wBin_shl32, u32_eq_zero, u32_ne_zero, List.length_cons, List.length_nil, Nat.le_refl, Nat.reduceAdd, Nat.reduceMul, Nat.reduceLeDiff, Int.toNat_zero, Int.toNat_one, c0, d2, wConv_eq, e1, e2, rem, e3, e4, hk1, hk2, ldP_row hrow, hget _ _ (i64s_get hu), hget _ _ (i64s_get hv), huv, dBsl_none]
    have hX : Ext H2 n3 (hs H2 (n3 + 10) (some (.cells [] 0))) (n3 + 10 + 1) := (Ext.refl H2 n3).new _ (by omega) (by omega)
    have hlen := i64s_length l
    have hsrc : Src (hs H2 (n3 + 10) (some (.cells [] 0))) 1 (.slice (some ⟨b, o, none⟩) l.length cap) l.length (i64s l) := src_sl ((hS.ext hE3).ext hX) (by omega) (by omega)
    rw [wApp_lit (by omega) (getH_same _ _ _) (by rfl) hsrc (by omega) (oneCells_i64s l) (by omega) (by omega)]
    simp only [Nat.zero_add, List.nil_append]
    have hX2 : Ext H2 n3 (hs (hs H2 (n3 + 10) (some (.cells [] 0))) (n3 + 10 + 1) (some (.cells (i64s l) 1))) (n3 + 10 + 1 + 1) := hX.new _ (by omega) (by omega)
    have hg6 : getH (hs (hs H2 (n3 + 10) (some (.cells [] 0))) (n3 + 10 + 1) (some (.cells (i64s l) 1))) (n3 + 10 + 1) = some (.cells (i64s l) 1) := getH_same _ _ _
    generalize hs (hs H2 (n3 + 10) (some (.cells [] 0))) (n3 + 10 + 1) (some (.cells (i64s l) 1)) = H6 at hX2 hg6 ⊢
    have p1 : putL (i64s l) k [.int .i64 v] = i64s (l.set k v) := putL_i64s (by omega)
    have p2 : putL (i64s (l.set k v)) (k + 1) [.int .i64 u] = i64s ((l.set k v).set (k + 1) u) := putL_i64s (by rw [List.length_set]; omega)
    have hl1 : (i64s (l.set k v)).length = l.length := by rw [i64s_length, List.length_set]
    simp (disch := first | omega | assumption | exact shr_lt (by assumption) | exact ndiff32 (by assumption) | exact below_lt (by omega) | fail) only [List.getD_cons_zero, List.getD_cons_succ, wBin_lss, wBin_leq, wBin_gtr, wBin_geq, wBin_eql, wBin_neq, wIf_bool, wGuard_true, wGuard_false, wPick_true, wPick_false, wUn_not, wFld_eq, wExt_eq, wPart_one, wPart_agg, wLen_slice, wLen_string, wNew_eq, wNm_eq, dBox_agg, dBox_int, dBox_slice, dBox_string, dBox_bool, dBox_map, dBox_ptr, oneCells, wLd_none, wLd_2, wLd_3, wLd_32, ldP_cells, ldP_rom, cellP_one, getH_same, getH_ne, forceV_eq, forceN_eq, hsK_eq, Option.elim_some, List.getElem?_cons_zero, List.getElem?_cons_succ, Yld.val, decide_true, decide_false, if_true, if_false, Bool.false_eq_true, Nat.zero_add, Nat.add_zero, and_true, true_and, or_false, Bool.not_true, Bool.not_false, and_self, wBin_add64, wBin_sub64, wIdx_slice, wIdx_array, wNilc_eq, Int.toNat_natCast, Nat.mul_one, Nat.zero_mul, wSt_agg, wSt_int, wSt_bool, wSt_string, wSt_slice, wSt_ptr, wSt_map, wSt_func, stP_cells, bit_one, bit_zero, bit_one', bit_zero', wBin_shr32, wBin_and1, wBin_rem2, wBin_andNot32, wBin_or32, wBin_and32, wBin_shl32, u32_eq_zero, u32_ne_zero, List.length_cons, List.length_nil, Nat.le_refl, Nat.reduceAdd, Nat.reduceMul, Nat.reduceLeDiff, Int.toNat_zero, Int.toNat_one, e4, hk1, hk2, hg6, i64s_get hu, i64s_get hv, p1, p2, hl1, hlen]
    refine ⟨by omega, by omega, ?_⟩
    have hml : ((l.set k v).set (k + 1) u).length = l.length := by rw [List.length_set, List.length_set]
    have hX9 : Ext H2 n3 (hs (hs H6 (n3 + 10 + 1) (some (.cells (i64s (l.set k v)) 1))) (n3 + 10 + 1) (some (.cells (i64s ((l.set k v).set (k + 1) u)) 1))) (n3 + 10 + 1 + 1 + 18) := (hX2.new _ (by omega) (Nat.le_refl _)).new _ (by omega) (by omega)
    have hg9 : getH (hs (hs H6 (n3 + 10 + 1) (some (.cells (i64s (l.set k v)) 1))) (n3 + 10 + 1) (some (.cells (i64s ((l.set k v).set (k + 1) u)) 1))) (n3 + 10 + 1) = some (.cells (i64s ((l.set k v).set (k + 1) u)) 1) := getH_same _ _ _
    generalize hs (hs H6 (n3 + 10 + 1) (some (.cells (i64s (l.set k v)) 1))) (n3 + 10 + 1) (some (.cells (i64s ((l.set k v).set (k + 1) u)) 1)) = H9 at hX9 hg9 ⊢
    have hs9 := sl_new (nx := n3 + 10 + 1 + 1 + 18) (by omega) hg9
    have hinv2 := swap_inv hu hv (by omega)
    have call := inv14 (some ⟨n3 + 10 + 1, 0, none⟩) ((l.set k v).set (k + 1) u) l.length H9 (n3 + 10 + 1 + 1 + 18) hs9 (.inr ⟨n3 + 10 + 1, 0, _, rfl, by omega, by simp [rowOf, hg9, Blk.row]; rfl⟩) (by omega)
    rw [hml] at call
    refine wCall_rule call ?_
    rintro _ H10 n10 ⟨rfl, hE10⟩
    have hE010 := hE3.trans (hX9.trans hE10)
    refine wCall_rule (inv14 (some ⟨b, o, none⟩) l cap H10 n10 (hS.ext hE010) (hA0.ext hE010) (by omega)) ?_
    rintro _ H11 n11 ⟨rfl, _⟩
    have c9 : decide (((inv ((l.set k v).set (k + 1) u) : Nat) : Int) = ((inv l : Nat) : Int) + 1) = true := by rw [hinv2]; simp
    simp (disch := first | omega | assumption | exact shr_lt (by assumption) | exact ndiff32 (by assumption) | exact below_lt (by omega) | fail) only [List.getD_cons_zero, List.getD_cons_succ, wBin_lss, wBin_leq, wBin_gtr, wBin_geq, wBin_eql, wBin_neq, wIf_bool, wGuard_true, wGuard_false, wPick_true, wPick_false, wUn_not, wFld_eq, wExt_eq, wPart_one, wPart_agg, wLen_slice, wLen_string, wNew_eq, wNm_eq, dBox_agg, dBox_int, dBox_slice, dBox_string, dBox_bool, dBox_map, dBox_ptr, oneCells, wLd_none, wLd_2, wLd_3, wLd_32, ldP_cells, ldP_rom, cellP_one, getH_same, getH_ne, forceV_eq, forceN_eq, hsK_eq, Option.elim_some, List.getElem?_cons_zero, List.getElem?_cons_succ, Yld.val, decide_true, decide_false, if_true, if_false, Bool.false_eq_true, Nat.zero_add, Nat.add_zero, and_true, true_and, or_false, Bool.not_true, Bool.not_false, and_self, wBin_add64, wBin_sub64, wIdx_slice, wIdx_array, wNilc_eq, Int.toNat_natCast, Nat.mul_one, Nat.zero_mul, wSt_agg, wSt_int, wSt_bool, wSt_string, wSt_slice, wSt_ptr, wSt_map, wSt_func, stP_cells, bit_one, bit_zero, bit_one', bit_zero', wBin_shr32, wBin_and1, wBin_rem2, wBin_andNot32, wBin_or32, wBin_and32, wBin_shl32, u32_eq_zero, u32_ne_zero, List.length_cons, List.length_nil, Nat.le_refl, Nat.reduceAdd, Nat.reduceMul, Nat.reduceLeDiff, Int.toNat_zero, Int.toNat_one, c9]
end Go.Proofs.YtdecggbglnbhlaaGreatDoor
