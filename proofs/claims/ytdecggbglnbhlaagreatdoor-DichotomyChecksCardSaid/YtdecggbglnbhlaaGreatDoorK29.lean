/-
  Contracts: dichotomy.contained, dichotomy.Check.
-/
import Derived.Test.YtdecggbglnbhlaaGreatDoorK24
import Derived.Test.YtdecggbglnbhlaaGreatDoorK27
import Derived.Test.YtdecggbglnbhlaaGreatDoorK28
set_option linter.unusedSimpArgs false
set_option linter.unusedVariables false
set_option linter.unusedSectionVars false
namespace Go.Proofs.YtdecggbglnbhlaaGreatDoor
open Go.Clo

open Classical in
noncomputable def accR (es : List Nat) (n f : Nat) (l : List Int) : Bool :=
  if permOK l f n then accB es n (adj es) ((l ++ downTo f f).map Int.toNat) else false
theorem toNat_cast (order : List Nat) : (order.map fun (w : Nat) => (w : Int)).map Int.toNat = order := by
  rw [List.map_map]
  conv => rhs; rw [← List.map_id order]
  exact List.map_congr_left fun x _ => by simp
theorem accR_yes {es : List Nat} {n f : Nat} {l : List Int} {order : List Nat} (h : permOK l f n) (ho : l ++ downTo f f = order.map fun (w : Nat) => (w : Int)) : accR es n f l = accB es n (adj es) order := by
  rw [accR, if_pos h, ho, toNat_cast]
theorem keyOK_set {out : List Bag} (h : KeyOK out) {v : Nat} {b : Bag} (hb : b.key < 4294967296) : KeyOK (out.set v b) := by
  intro x hx
  obtain ⟨i, hi, rfl⟩ := List.getElem_of_mem hx
  rw [List.getElem_set]
  split
  · exact hb
  · exact h _ (List.getElem_mem _)
theorem outs_keyOK {n : Nat} (hn : n ≤ 32) : ∀ (order : List Nat) (out : List Bag) (N : Nb), KeyOK out → KeyOK (outs n out N order)
  | [], out, N, h => h
  | v :: rest, out, N, h => outs_keyOK hn rest _ _ (keyOK_set h (maskOf32 hn _))
theorem zero_keyOK (n : Nat) : KeyOK (List.replicate n zeroBag) := fun b hb => by
  rw [(List.mem_replicate.1 hb).2]; show 0 < 4294967296; omega

set_option maxHeartbeats 2000000 in
theorem contained43 {n f : Nat} (hn : n ≤ 32) (hf : f ≤ n) (A : Option Addr) (es : List Nat) (cap : Nat) (P : Option Addr) (l : List Int) (capP : Nat) (H : Heap) (nx : Nat) (hS : Sl H nx A (u32s es)) (hsm : ∀ e ∈ es, e < 2 ^ n) (hle : es.length ≤ 64) (hgc : gcode n es = 0) (hfc : fcode n f es = 0)
    (hP : Sl H nx P (i64s l)) (hP0 : Has H nx P) (hl : l.length ≤ 40) :
    Ans Tryz.prog 43 [gv n A es.length cap, .int .i64 (f : Int), .slice P l.length capP] H nx fun r H' nx' => r = .bool (accR es n f l) ∧ Ext H nx H' nx' := by
  have hsm32 : Small es := fun e he => Nat.lt_of_lt_of_le (hsm e he) (Nat.le_trans (Nat.pow_le_pow_right (by omega) hn) (by decide))
  refine spec43 ?_
  unfold F43
  have hE1 : Ext H nx (hs H nx (some (.cells [.int .i64 n, .slice A es.length cap] 0))) (nx + 1) := (Ext.refl H nx).new _ (Nat.le_refl _) (by omega)
  simp (disch := first | omega | assumption | exact shr_lt (by assumption) | exact ndiff32 (by assumption) | exact below_lt (by omega) | fail) only [List.getD_cons_zero, List.getD_cons_succ, wBin_lss, wBin_leq, wBin_gtr, wBin_geq, wBin_eql, wBin_neq, wIf_bool, wGuard_true, wGuard_false, wPick_true, wPick_false, wUn_not, wFld_eq, wExt_eq, wPart_one, wPart_agg, wLen_slice, wLen_string, wNew_eq, wNm_eq, dBox_agg, dBox_int, dBox_slice, dBox_string, dBox_bool, dBox_map, dBox_ptr, oneCells, wLd_none, wLd_2, wLd_3, wLd_32, ldP_cells, ldP_rom, cellP_one, getH_same, getH_ne, forceV_eq, forceN_eq, hsK_eq, Option.elim_some, List.getElem?_cons_zero, List.getElem?_cons_succ, Yld.val, decide_true, decide_false, if_true, if_false, Bool.false_eq_true, Nat.zero_add, Nat.add_zero, and_true, true_and, or_false, Bool.not_true, Bool.not_false, and_self, wBin_add64, wBin_sub64, wIdx_slice, wIdx_array, wNilc_eq, Int.toNat_natCast, Nat.mul_one, Nat.zero_mul, wSt_agg, wSt_int, wSt_bool, wSt_string, wSt_slice, wSt_ptr, wSt_map, wSt_func, stP_cells, bit_one, bit_zero, bit_one', bit_zero', wBin_shr32, wBin_and1, wBin_rem2, wBin_andNot32, wBin_or32, wBin_and32, wBin_shl32, u32_eq_zero, u32_ne_zero, List.length_cons, List.length_nil, Nat.le_refl, Nat.reduceAdd, Nat.reduceMul, Nat.reduceLeDiff, Int.toNat_zero, Int.toNat_one, cellP_lit2]
  refine wCall_rule (bags13 n f A es cap P l capP _ _ (hS.ext hE1) hsm32 (hP.ext hE1) (hP0.ext hE1) hl) ?_
  rintro r H2 nx2 ⟨hE2, h⟩
  have hEE2 := hE1.trans hE2
  have hg2 := hE2.get nx (by omega)
  rw [getH_same] at hg2
  have hnx2 := hE2.le
  rcases h with ⟨h0, _⟩ | ⟨n', f', en, ef, _, _, _, h⟩
  · exact absurd hfc h0
  obtain rfl : n = n' := by omega
  obtain rfl : f = f' := by omega
  rcases h with ⟨hno, rfl⟩ | ⟨hok, order, ho, hnd, hlt, hlen, R, rfl, hR⟩
  · unfold refuse
    have d : decide ((1 : Int) ≠ 0) = true := by decide
    simp (disch := first | omega | assumption | exact shr_lt (by assumption) | exact ndiff32 (by assumption) | exact below_lt (by omega) | fail) only [List.getD_cons_zero, List.getD_cons_succ, wBin_lss, wBin_leq, wBin_gtr, wBin_geq, wBin_eql, wBin_neq, wIf_bool, wGuard_true, wGuard_false, wPick_true, wPick_false, wUn_not, wFld_eq, wExt_eq, wPart_one, wPart_agg, wLen_slice, wLen_string, wNew_eq, wNm_eq, dBox_agg, dBox_int, dBox_slice, dBox_string, dBox_bool, dBox_map, dBox_ptr, oneCells, wLd_none, wLd_2, wLd_3, wLd_32, ldP_cells, ldP_rom, cellP_one, getH_same, getH_ne, forceV_eq, forceN_eq, hsK_eq, Option.elim_some, List.getElem?_cons_zero, List.getElem?_cons_succ, Yld.val, decide_true, decide_false, if_true, if_false, Bool.false_eq_true, Nat.zero_add, Nat.add_zero, and_true, true_and, or_false, Bool.not_true, Bool.not_false, and_self, wBin_add64, wBin_sub64, wIdx_slice, wIdx_array, wNilc_eq, Int.toNat_natCast, Nat.mul_one, Nat.zero_mul, wSt_agg, wSt_int, wSt_bool, wSt_string, wSt_slice, wSt_ptr, wSt_map, wSt_func, stP_cells, bit_one, bit_zero, bit_one', bit_zero', wBin_shr32, wBin_and1, wBin_rem2, wBin_andNot32, wBin_or32, wBin_and32, wBin_shl32, u32_eq_zero, u32_ne_zero, List.length_cons, List.length_nil, Nat.le_refl, Nat.reduceAdd, Nat.reduceMul, Nat.reduceLeDiff, Int.toNat_zero, Int.toNat_one, d]
    exact ⟨by rw [accR, if_neg hno], hEE2⟩
  have hacc := accR_yes (es := es) hok ho
  have d : decide ((0 : Int) ≠ 0) = false := by decide
  have hout := outs_acc es n order (List.replicate n zeroBag) (adj es) hnd fun w hw => by
    have := hlt w hw
    rw [List.length_replicate]; omega
  have hkey := outs_keyOK (n := n) hn order (List.replicate n zeroBag) (adj es) (zero_keyOK n)
  have hol := outs_len n order (List.replicate n zeroBag) (adj es)
  rw [List.length_replicate] at hol
  generalize outs n (List.replicate n zeroBag) (adj es) order = bs at hR hout hkey hol
  simp (disch := first | omega | assumption | exact shr_lt (by assumption) | exact ndiff32 (by assumption) | exact below_lt (by omega) | fail) only [List.getD_cons_zero, List.getD_cons_succ, wBin_lss, wBin_leq, wBin_gtr, wBin_geq, wBin_eql, wBin_neq, wIf_bool, wGuard_true, wGuard_false, wPick_true, wPick_false, wUn_not, wFld_eq, wExt_eq, wPart_one, wPart_agg, wLen_slice, wLen_string, wNew_eq, wNm_eq, dBox_agg, dBox_int, dBox_slice, dBox_string, dBox_bool, dBox_map, dBox_ptr, oneCells, wLd_none, wLd_2, wLd_3, wLd_32, ldP_cells, ldP_rom, cellP_one, getH_same, getH_ne, forceV_eq, forceN_eq, hsK_eq, Option.elim_some, List.getElem?_cons_zero, List.getElem?_cons_succ, Yld.val, decide_true, decide_false, if_true, if_false, Bool.false_eq_true, Nat.zero_add, Nat.add_zero, and_true, true_and, or_false, Bool.not_true, Bool.not_false, and_self, wBin_add64, wBin_sub64, wIdx_slice, wIdx_array, wNilc_eq, Int.toNat_natCast, Nat.mul_one, Nat.zero_mul, wSt_agg, wSt_int, wSt_bool, wSt_string, wSt_slice, wSt_ptr, wSt_map, wSt_func, stP_cells, bit_one, bit_zero, bit_one', bit_zero', wBin_shr32, wBin_and1, wBin_rem2, wBin_andNot32, wBin_or32, wBin_and32, wBin_shl32, u32_eq_zero, u32_ne_zero, List.length_cons, List.length_nil, Nat.le_refl, Nat.reduceAdd, Nat.reduceMul, Nat.reduceLeDiff, Int.toNat_zero, Int.toNat_one, d]
  refine wLoop_rule (m := n) (fun m L H' nx' => ∃ i : Nat, m + i = n ∧ L = [.int .i64 (i : Int)] ∧ (∀ (w : Nat) (b : Bag), w < i → bs[w]? = some b → insB es (setOf b) = true) ∧ Ext H2 nx2 H' nx') ?_ ⟨0, rfl, rfl, fun w b h => by omega, Ext.refl _ _⟩
  rintro m ih L H3 nx3 ⟨i, hm, rfl, hall, hE3⟩ hih
  have hg3 := (hE3.get nx (by omega)).trans hg2
  have hnx3 := hE3.le
  simp (disch := first | omega | assumption | exact shr_lt (by assumption) | exact ndiff32 (by assumption) | exact below_lt (by omega) | fail) only [List.getD_cons_zero, List.getD_cons_succ, wBin_lss, wBin_leq, wBin_gtr, wBin_geq, wBin_eql, wBin_neq, wIf_bool, wGuard_true, wGuard_false, wPick_true, wPick_false, wUn_not, wFld_eq, wExt_eq, wPart_one, wPart_agg, wLen_slice, wLen_string, wNew_eq, wNm_eq, dBox_agg, dBox_int, dBox_slice, dBox_string, dBox_bool, dBox_map, dBox_ptr, oneCells, wLd_none, wLd_2, wLd_3, wLd_32, ldP_cells, ldP_rom, cellP_one, getH_same, getH_ne, forceV_eq, forceN_eq, hsK_eq, Option.elim_some, List.getElem?_cons_zero, List.getElem?_cons_succ, Yld.val, decide_true, decide_false, if_true, if_false, Bool.false_eq_true, Nat.zero_add, Nat.add_zero, and_true, true_and, or_false, Bool.not_true, Bool.not_false, and_self, wBin_add64, wBin_sub64, wIdx_slice, wIdx_array, wNilc_eq, Int.toNat_natCast, Nat.mul_one, Nat.zero_mul, wSt_agg, wSt_int, wSt_bool, wSt_string, wSt_slice, wSt_ptr, wSt_map, wSt_func, stP_cells, bit_one, bit_zero, bit_one', bit_zero', wBin_shr32, wBin_and1, wBin_rem2, wBin_andNot32, wBin_or32, wBin_and32, wBin_shl32, u32_eq_zero, u32_ne_zero, List.length_cons, List.length_nil, Nat.le_refl, Nat.reduceAdd, Nat.reduceMul, Nat.reduceLeDiff, Int.toNat_zero, Int.toNat_one]
  by_cases hi : i < n
  case neg =>
    have hi' : ¬ (i : Int) < (n : Int) := by omega
    simp (disch := first | omega | assumption | exact shr_lt (by assumption) | exact ndiff32 (by assumption) | exact below_lt (by omega) | fail) only [List.getD_cons_zero, List.getD_cons_succ, wBin_lss, wBin_leq, wBin_gtr, wBin_geq, wBin_eql, wBin_neq, wIf_bool, wGuard_true, wGuard_false, wPick_true, wPick_false, wUn_not, wFld_eq, wExt_eq, wPart_one, wPart_agg, wLen_slice, wLen_string, wNew_eq, wNm_eq, dBox_agg, dBox_int, dBox_slice, dBox_string, dBox_bool, dBox_map, dBox_ptr, oneCells, wLd_none, wLd_2, wLd_3, wLd_32, ldP_cells, ldP_rom, cellP_one, getH_same, getH_ne, forceV_eq, forceN_eq, hsK_eq, Option.elim_some, List.getElem?_cons_zero, List.getElem?_cons_succ, Yld.val, decide_true, decide_false, if_true, if_false, Bool.false_eq_true, Nat.zero_add, Nat.add_zero, and_true, true_and, or_false, Bool.not_true, Bool.not_false, and_self, wBin_add64, wBin_sub64, wIdx_slice, wIdx_array, wNilc_eq, Int.toNat_natCast, Nat.mul_one, Nat.zero_mul, wSt_agg, wSt_int, wSt_bool, wSt_string, wSt_slice, wSt_ptr, wSt_map, wSt_func, stP_cells, bit_one, bit_zero, bit_one', bit_zero', wBin_shr32, wBin_and1, wBin_rem2, wBin_andNot32, wBin_or32, wBin_and32, wBin_shl32, u32_eq_zero, u32_ne_zero, List.length_cons, List.length_nil, Nat.le_refl, Nat.reduceAdd, Nat.reduceMul, Nat.reduceLeDiff, Int.toNat_zero, Int.toNat_one, hi']
    refine ⟨?_, hEE2.trans hE3⟩
    rw [hacc, hout.1 fun w hw b hb => hall w b (by have := hlt w hw; omega) hb]
  have hi' : (i : Int) < (n : Int) := by omega
  obtain ⟨b, hb⟩ : ∃ b, bs[i]? = some b := ⟨_, List.getElem?_eq_getElem (by omega)⟩
  obtain ⟨B, o, row, rfl, hBn, hrow, hget⟩ := (hR.ext hE3).open (i := 0) (by rw [bagsC_length]; omega)
  have c0 := hget _ _ (bagsC_get hb 0 (.int .i64 b.var) rfl)
  have c1 := hget _ _ (bagsC_get hb 1 (.int .u32 (b.key : Int)) rfl)
  have c2 := hget _ _ (bagsC_get hb 2 (.int .i64 b.par) rfl)
  have hbk := hkey.get hb
  rw [Nat.add_zero] at c0
  rw [← Nat.add_assoc] at c1 c2
  simp (disch := first | omega | assumption | exact shr_lt (by assumption) | exact ndiff32 (by assumption) | exact below_lt (by omega) | fail) only [List.getD_cons_zero, List.getD_cons_succ, wBin_lss, wBin_leq, wBin_gtr, wBin_geq, wBin_eql, wBin_neq, wIf_bool, wGuard_true, wGuard_false, wPick_true, wPick_false, wUn_not, wFld_eq, wExt_eq, wPart_one, wPart_agg, wLen_slice, wLen_string, wNew_eq, wNm_eq, dBox_agg, dBox_int, dBox_slice, dBox_string, dBox_bool, dBox_map, dBox_ptr, oneCells, wLd_none, wLd_2, wLd_3, wLd_32, ldP_cells, ldP_rom, cellP_one, getH_same, getH_ne, forceV_eq, forceN_eq, hsK_eq, Option.elim_some, List.getElem?_cons_zero, List.getElem?_cons_succ, Yld.val, decide_true, decide_false, if_true, if_false, Bool.false_eq_true, Nat.zero_add, Nat.add_zero, and_true, true_and, or_false, Bool.not_true, Bool.not_false, and_self, wBin_add64, wBin_sub64, wIdx_slice, wIdx_array, wNilc_eq, Int.toNat_natCast, Nat.mul_one, Nat.zero_mul, wSt_agg, wSt_int, wSt_bool, wSt_string, wSt_slice, wSt_ptr, wSt_map, wSt_func, stP_cells, bit_one, bit_zero, bit_one', bit_zero', wBin_shr32, wBin_and1, wBin_rem2, wBin_andNot32, wBin_or32, wBin_and32, wBin_shl32, u32_eq_zero, u32_ne_zero, List.length_cons, List.length_nil, Nat.le_refl, Nat.reduceAdd, Nat.reduceMul, Nat.reduceLeDiff, Int.toNat_zero, Int.toNat_one, hi', ldP_row hrow, cellP_3 c0 c1 c2, putL_lit3, hg3, cellP_lit2, cellP_lit3]
  generalize hK : hs (hs H3 nx3 (some (.cells [.int .i64 0, .int .u32 0, .int .i64 0] 0))) nx3 (some (.cells [.int .i64 b.var, .int .u32 (b.key : Int), .int .i64 b.par] 0)) = K
  have kE : Ext H3 nx3 K (nx3 + 1) := by rw [← hK]; exact ((Ext.refl H3 nx3).new _ (Nat.le_refl _) (by omega) : Ext H3 nx3 _ (nx3 + 1)).hs (Nat.le_refl _)
  have kB : getH K nx3 = some (.cells [.int .i64 b.var, .int .u32 (b.key : Int), .int .i64 b.par] 0) := by rw [← hK, getH_same]
  have kG := (kE.get nx (by omega)).trans hg3
  have kE9 : Ext H3 nx3 K (nx3 + 1 + 9) := kE.more (by omega)
  refine wCall_rule (set20 (b := b) hbk K (nx3 + 1 + 9)) ?_
  rintro _ H5 nx5 ⟨rfl, hE5⟩
  have hE35 := kE9.trans hE5
  have g5 := (hE5.get nx (by omega)).trans kG
  have b5 := (hE5.get nx3 (by omega)).trans kB
  refine wCall_rule (inside38 hn (setOf_lt hbk) A es cap _ _ (hS.ext ((hEE2.trans hE3).trans hE35)) hsm32 hle hgc) ?_
  rintro _ H6 nx6 ⟨⟨x, rfl⟩, hE6⟩
  have hE36 := hE35.trans hE6
  cases hins : insB es (setOf b) with
  | false =>
    simp (disch := first | omega | assumption | exact shr_lt (by assumption) | exact ndiff32 (by assumption) | exact below_lt (by omega) | fail) only [List.getD_cons_zero, List.getD_cons_succ, wBin_lss, wBin_leq, wBin_gtr, wBin_geq, wBin_eql, wBin_neq, wIf_bool, wGuard_true, wGuard_false, wPick_true, wPick_false, wUn_not, wFld_eq, wExt_eq, wPart_one, wPart_agg, wLen_slice, wLen_string, wNew_eq, wNm_eq, dBox_agg, dBox_int, dBox_slice, dBox_string, dBox_bool, dBox_map, dBox_ptr, oneCells, wLd_none, wLd_2, wLd_3, wLd_32, ldP_cells, ldP_rom, cellP_one, getH_same, getH_ne, forceV_eq, forceN_eq, hsK_eq, Option.elim_some, List.getElem?_cons_zero, List.getElem?_cons_succ, Yld.val, decide_true, decide_false, if_true, if_false, Bool.false_eq_true, Nat.zero_add, Nat.add_zero, and_true, true_and, or_false, Bool.not_true, Bool.not_false, and_self, wBin_add64, wBin_sub64, wIdx_slice, wIdx_array, wNilc_eq, Int.toNat_natCast, Nat.mul_one, Nat.zero_mul, wSt_agg, wSt_int, wSt_bool, wSt_string, wSt_slice, wSt_ptr, wSt_map, wSt_func, stP_cells, bit_one, bit_zero, bit_one', bit_zero', wBin_shr32, wBin_and1, wBin_rem2, wBin_andNot32, wBin_or32, wBin_and32, wBin_shl32, u32_eq_zero, u32_ne_zero, List.length_cons, List.length_nil, Nat.le_refl, Nat.reduceAdd, Nat.reduceMul, Nat.reduceLeDiff, Int.toNat_zero, Int.toNat_one, g5, kG, cellP_lit2]
    refine ⟨?_, (hEE2.trans hE3).trans hE36⟩
    rw [hacc]
    cases hq : accB es n (adj es) order with
    | false => rfl
    | true =>
      have := hout.2 hq i (order_all hnd hlt hlen hi) b hb
      rw [hins] at this; cases this
  | true =>
    simp (disch := first | omega | assumption | exact shr_lt (by assumption) | exact ndiff32 (by assumption) | exact below_lt (by omega) | fail) only [List.getD_cons_zero, List.getD_cons_succ, wBin_lss, wBin_leq, wBin_gtr, wBin_geq, wBin_eql, wBin_neq, wIf_bool, wGuard_true, wGuard_false, wPick_true, wPick_false, wUn_not, wFld_eq, wExt_eq, wPart_one, wPart_agg, wLen_slice, wLen_string, wNew_eq, wNm_eq, dBox_agg, dBox_int, dBox_slice, dBox_string, dBox_bool, dBox_map, dBox_ptr, oneCells, wLd_none, wLd_2, wLd_3, wLd_32, ldP_cells, ldP_rom, cellP_one, getH_same, getH_ne, forceV_eq, forceN_eq, hsK_eq, Option.elim_some, List.getElem?_cons_zero, List.getElem?_cons_succ, Yld.val, decide_true, decide_false, if_true, if_false, Bool.false_eq_true, Nat.zero_add, Nat.add_zero, and_true, true_and, or_false, Bool.not_true, Bool.not_false, and_self, wBin_add64, wBin_sub64, wIdx_slice, wIdx_array, wNilc_eq, Int.toNat_natCast, Nat.mul_one, Nat.zero_mul, wSt_agg, wSt_int, wSt_bool, wSt_string, wSt_slice, wSt_ptr, wSt_map, wSt_func, stP_cells, bit_one, bit_zero, bit_one', bit_zero', wBin_shr32, wBin_and1, wBin_rem2, wBin_andNot32, wBin_or32, wBin_and32, wBin_shl32, u32_eq_zero, u32_ne_zero, List.length_cons, List.length_nil, Nat.le_refl, Nat.reduceAdd, Nat.reduceMul, Nat.reduceLeDiff, Int.toNat_zero, Int.toNat_one, g5, kG, cellP_lit2]
    refine hih (m - 1) _ _ _ (by omega) ⟨i + 1, by omega, by simp, fun w b' hw hb' => ?_, hE3.trans hE36⟩
    by_cases hwi : w = i
    · subst hwi; rw [hb] at hb'; cases hb'; exact hins
    · exact hall w b' (by omega) hb'

theorem wVf_s2a {m : Nat} {a : Addr} {len cap : Nat} (h : m ≤ len) (k : VP) : wVf (.s2a m) [.slice (some a) len cap] k = k (.pointer (some a)) := by
  have e : VF.ev (.s2a m) [.slice (some a) len cap] = some (.pointer (some a)) := by
    show cond (Nat.ble m len) (some (Value.pointer (some a))) none = _
    rw [bltrue h]; rfl
  unfold wVf
  rw [e, optK_eq]; rfl
open Classical in
noncomputable def checkR (es : List Nat) (N free kind : Int) (l w : List Int) : Bool :=
  if fcode N free es = 0 then
    (if kind = 0 then decide (w.length = 0) && accR es N.toNat free.toNat l
     else if 0 < l.length then false
     else if kind = 1 then obR es N.toNat w
     else if kind = 2 then pathR es N.toNat free.toNat w
     else if kind = 3 then decide (w.length = 3) && trioR es N.toNat free.toNat (w.getD 0 0) (w.getD 1 0) (w.getD 2 0)
     else false)
  else false
theorem getD_some {l : List Int} {i : Nat} {x : Int} (h : l[i]? = some x) : l.getD i 0 = x := by
  rw [List.getD_eq_getElem?_getD, h]; rfl

set_option maxHeartbeats 2000000 in
theorem check21 (N free kind : Int) (A : Option Addr) (es : List Nat) (cap : Nat) (P : Option Addr) (l : List Int) (capP : Nat) (W : Option Addr) (w : List Int) (capW : Nat) (H : Heap) (nx : Nat) (hS : Sl H nx A (u32s es)) (hsm : Small es)
    (hP : Sl H nx P (i64s l)) (hP0 : Has H nx P) (hl : l.length ≤ 40) (hW : Sl H nx W (i64s w)) (hwl : w.length ≤ 40) :
    Ans Tryz.prog 21 [gv N A es.length cap, .int .i64 free, .agg ⟨[.int .i64 kind, .slice P l.length capP, .slice W w.length capW]⟩] H nx fun r H' nx' => r = .bool (checkR es N free kind l w) ∧ Ext H nx H' nx' := by
  refine spec21 ?_
  unfold F21
  simp (disch := first | omega | assumption | exact shr_lt (by assumption) | exact ndiff32 (by assumption) | exact below_lt (by omega) | fail) only [List.getD_cons_zero, List.getD_cons_succ, wBin_lss, wBin_leq, wBin_gtr, wBin_geq, wBin_eql, wBin_neq, wIf_bool, wGuard_true, wGuard_false, wPick_true, wPick_false, wUn_not, wFld_eq, wExt_eq, wPart_one, wPart_agg, wLen_slice, wLen_string, wNew_eq, wNm_eq, dBox_agg, dBox_int, dBox_slice, dBox_string, dBox_bool, dBox_map, dBox_ptr, oneCells, wLd_none, wLd_2, wLd_3, wLd_32, ldP_cells, ldP_rom, cellP_one, getH_same, getH_ne, forceV_eq, forceN_eq, hsK_eq, Option.elim_some, List.getElem?_cons_zero, List.getElem?_cons_succ, Yld.val, decide_true, decide_false, if_true, if_false, Bool.false_eq_true, Nat.zero_add, Nat.add_zero, and_true, true_and, or_false, Bool.not_true, Bool.not_false, and_self, wBin_add64, wBin_sub64, wIdx_slice, wIdx_array, wNilc_eq, Int.toNat_natCast, Nat.mul_one, Nat.zero_mul, wSt_agg, wSt_int, wSt_bool, wSt_string, wSt_slice, wSt_ptr, wSt_map, wSt_func, stP_cells, bit_one, bit_zero, bit_one', bit_zero', wBin_shr32, wBin_and1, wBin_rem2, wBin_andNot32, wBin_or32, wBin_and32, wBin_shl32, u32_eq_zero, u32_ne_zero, List.length_cons, List.length_nil, Nat.le_refl, Nat.reduceAdd, Nat.reduceMul, Nat.reduceLeDiff, Int.toNat_zero, Int.toNat_one]
  generalize hK : hs (hs H nx (some (.cells [.int .i64 N, .slice A es.length cap] 0))) (nx + 1) (some (.cells [.int .i64 kind, .slice P l.length capP, .slice W w.length capW] 0)) = K
  have kG : getH K nx = some (.cells [.int .i64 N, .slice A es.length cap] 0) := by rw [← hK, getH_ne _ (by omega), getH_same]
  have kV : getH K (nx + 1) = some (.cells [.int .i64 kind, .slice P l.length capP, .slice W w.length capW] 0) := by rw [← hK, getH_same]
  have hEK : Ext H nx K (nx + 1 + 1) := by
    rw [← hK]; exact (((Ext.refl H nx).new _ (by omega) (by omega) : Ext H nx _ (nx + 1)).new _ (by omega) (by omega))
  refine wJoin_rule (fun L H' nx' => L = [.bool (!decide (fcode N free es = 0))] ∧ Ext K (nx + 1 + 1) H' nx') ?_ ?_
  · intro j hj
    simp (disch := first | omega | assumption | exact shr_lt (by assumption) | exact ndiff32 (by assumption) | exact below_lt (by omega) | fail) only [List.getD_cons_zero, List.getD_cons_succ, wBin_lss, wBin_leq, wBin_gtr, wBin_geq, wBin_eql, wBin_neq, wIf_bool, wGuard_true, wGuard_false, wPick_true, wPick_false, wUn_not, wFld_eq, wExt_eq, wPart_one, wPart_agg, wLen_slice, wLen_string, wNew_eq, wNm_eq, dBox_agg, dBox_int, dBox_slice, dBox_string, dBox_bool, dBox_map, dBox_ptr, oneCells, wLd_none, wLd_2, wLd_3, wLd_32, ldP_cells, ldP_rom, cellP_one, getH_same, getH_ne, forceV_eq, forceN_eq, hsK_eq, Option.elim_some, List.getElem?_cons_zero, List.getElem?_cons_succ, Yld.val, decide_true, decide_false, if_true, if_false, Bool.false_eq_true, Nat.zero_add, Nat.add_zero, and_true, true_and, or_false, Bool.not_true, Bool.not_false, and_self, wBin_add64, wBin_sub64, wIdx_slice, wIdx_array, wNilc_eq, Int.toNat_natCast, Nat.mul_one, Nat.zero_mul, wSt_agg, wSt_int, wSt_bool, wSt_string, wSt_slice, wSt_ptr, wSt_map, wSt_func, stP_cells, bit_one, bit_zero, bit_one', bit_zero', wBin_shr32, wBin_and1, wBin_rem2, wBin_andNot32, wBin_or32, wBin_and32, wBin_shl32, u32_eq_zero, u32_ne_zero, List.length_cons, List.length_nil, Nat.le_refl, Nat.reduceAdd, Nat.reduceMul, Nat.reduceLeDiff, Int.toNat_zero, Int.toNat_one, kG, cellP_lit2]
    refine wCall_rule (check37 N A es cap _ _ (hS.ext hEK) hsm) ?_
    rintro _ H2 nx2 ⟨rfl, hE2⟩
    have hg2 := (hE2.get nx (by omega)).trans kG
    by_cases h0 : gcode N es = 0
    · have d1 : decide (gcode N es ≠ 0) = false := by simp [h0]
      have hF : fcode N free es = if free < 0 ∨ N < free then 3 else 0 := by rw [fcode, if_neg (by simp [h0])]
      by_cases h1 : free < 0
      · have e : decide (fcode N free es = 0) = false := by rw [hF, if_pos (by omega)]; simp
        simp (disch := first | omega | assumption | exact shr_lt (by assumption) | exact ndiff32 (by assumption) | exact below_lt (by omega) | fail) only [List.getD_cons_zero, List.getD_cons_succ, wBin_lss, wBin_leq, wBin_gtr, wBin_geq, wBin_eql, wBin_neq, wIf_bool, wGuard_true, wGuard_false, wPick_true, wPick_false, wUn_not, wFld_eq, wExt_eq, wPart_one, wPart_agg, wLen_slice, wLen_string, wNew_eq, wNm_eq, dBox_agg, dBox_int, dBox_slice, dBox_string, dBox_bool, dBox_map, dBox_ptr, oneCells, wLd_none, wLd_2, wLd_3, wLd_32, ldP_cells, ldP_rom, cellP_one, getH_same, getH_ne, forceV_eq, forceN_eq, hsK_eq, Option.elim_some, List.getElem?_cons_zero, List.getElem?_cons_succ, Yld.val, decide_true, decide_false, if_true, if_false, Bool.false_eq_true, Nat.zero_add, Nat.add_zero, and_true, true_and, or_false, Bool.not_true, Bool.not_false, and_self, wBin_add64, wBin_sub64, wIdx_slice, wIdx_array, wNilc_eq, Int.toNat_natCast, Nat.mul_one, Nat.zero_mul, wSt_agg, wSt_int, wSt_bool, wSt_string, wSt_slice, wSt_ptr, wSt_map, wSt_func, stP_cells, bit_one, bit_zero, bit_one', bit_zero', wBin_shr32, wBin_and1, wBin_rem2, wBin_andNot32, wBin_or32, wBin_and32, wBin_shl32, u32_eq_zero, u32_ne_zero, List.length_cons, List.length_nil, Nat.le_refl, Nat.reduceAdd, Nat.reduceMul, Nat.reduceLeDiff, Int.toNat_zero, Int.toNat_one, d1, h1]
        exact hj _ _ _ ⟨by rw [e]; rfl, hE2⟩
      · by_cases h2 : N < free
        · have e : decide (fcode N free es = 0) = false := by rw [hF, if_pos (by omega)]; simp
          simp (disch := first | omega | assumption | exact shr_lt (by assumption) | exact ndiff32 (by assumption) | exact below_lt (by omega) | fail) only [List.getD_cons_zero, List.getD_cons_succ, wBin_lss, wBin_leq, wBin_gtr, wBin_geq, wBin_eql, wBin_neq, wIf_bool, wGuard_true, wGuard_false, wPick_true, wPick_false, wUn_not, wFld_eq, wExt_eq, wPart_one, wPart_agg, wLen_slice, wLen_string, wNew_eq, wNm_eq, dBox_agg, dBox_int, dBox_slice, dBox_string, dBox_bool, dBox_map, dBox_ptr, oneCells, wLd_none, wLd_2, wLd_3, wLd_32, ldP_cells, ldP_rom, cellP_one, getH_same, getH_ne, forceV_eq, forceN_eq, hsK_eq, Option.elim_some, List.getElem?_cons_zero, List.getElem?_cons_succ, Yld.val, decide_true, decide_false, if_true, if_false, Bool.false_eq_true, Nat.zero_add, Nat.add_zero, and_true, true_and, or_false, Bool.not_true, Bool.not_false, and_self, wBin_add64, wBin_sub64, wIdx_slice, wIdx_array, wNilc_eq, Int.toNat_natCast, Nat.mul_one, Nat.zero_mul, wSt_agg, wSt_int, wSt_bool, wSt_string, wSt_slice, wSt_ptr, wSt_map, wSt_func, stP_cells, bit_one, bit_zero, bit_one', bit_zero', wBin_shr32, wBin_and1, wBin_rem2, wBin_andNot32, wBin_or32, wBin_and32, wBin_shl32, u32_eq_zero, u32_ne_zero, List.length_cons, List.length_nil, Nat.le_refl, Nat.reduceAdd, Nat.reduceMul, Nat.reduceLeDiff, Int.toNat_zero, Int.toNat_one, d1, h1, h2, hg2]
          exact hj _ _ _ ⟨by rw [e]; rfl, hE2⟩
        · have e : decide (fcode N free es = 0) = true := by rw [hF, if_neg (by omega)]; simp
          simp (disch := first | omega | assumption | exact shr_lt (by assumption) | exact ndiff32 (by assumption) | exact below_lt (by omega) | fail) only [List.getD_cons_zero, List.getD_cons_succ, wBin_lss, wBin_leq, wBin_gtr, wBin_geq, wBin_eql, wBin_neq, wIf_bool, wGuard_true, wGuard_false, wPick_true, wPick_false, wUn_not, wFld_eq, wExt_eq, wPart_one, wPart_agg, wLen_slice, wLen_string, wNew_eq, wNm_eq, dBox_agg, dBox_int, dBox_slice, dBox_string, dBox_bool, dBox_map, dBox_ptr, oneCells, wLd_none, wLd_2, wLd_3, wLd_32, ldP_cells, ldP_rom, cellP_one, getH_same, getH_ne, forceV_eq, forceN_eq, hsK_eq, Option.elim_some, List.getElem?_cons_zero, List.getElem?_cons_succ, Yld.val, decide_true, decide_false, if_true, if_false, Bool.false_eq_true, Nat.zero_add, Nat.add_zero, and_true, true_and, or_false, Bool.not_true, Bool.not_false, and_self, wBin_add64, wBin_sub64, wIdx_slice, wIdx_array, wNilc_eq, Int.toNat_natCast, Nat.mul_one, Nat.zero_mul, wSt_agg, wSt_int, wSt_bool, wSt_string, wSt_slice, wSt_ptr, wSt_map, wSt_func, stP_cells, bit_one, bit_zero, bit_one', bit_zero', wBin_shr32, wBin_and1, wBin_rem2, wBin_andNot32, wBin_or32, wBin_and32, wBin_shl32, u32_eq_zero, u32_ne_zero, List.length_cons, List.length_nil, Nat.le_refl, Nat.reduceAdd, Nat.reduceMul, Nat.reduceLeDiff, Int.toNat_zero, Int.toNat_one, d1, h1, h2, hg2]
          exact hj _ _ _ ⟨by rw [e]; rfl, hE2⟩
    · have d1 : decide (gcode N es ≠ 0) = true := by simp [h0]
      have e : decide (fcode N free es = 0) = false := by rw [fcode, if_pos h0]; simp [h0]
      simp (disch := first | omega | assumption | exact shr_lt (by assumption) | exact ndiff32 (by assumption) | exact below_lt (by omega) | fail) only [List.getD_cons_zero, List.getD_cons_succ, wBin_lss, wBin_leq, wBin_gtr, wBin_geq, wBin_eql, wBin_neq, wIf_bool, wGuard_true, wGuard_false, wPick_true, wPick_false, wUn_not, wFld_eq, wExt_eq, wPart_one, wPart_agg, wLen_slice, wLen_string, wNew_eq, wNm_eq, dBox_agg, dBox_int, dBox_slice, dBox_string, dBox_bool, dBox_map, dBox_ptr, oneCells, wLd_none, wLd_2, wLd_3, wLd_32, ldP_cells, ldP_rom, cellP_one, getH_same, getH_ne, forceV_eq, forceN_eq, hsK_eq, Option.elim_some, List.getElem?_cons_zero, List.getElem?_cons_succ, Yld.val, decide_true, decide_false, if_true, if_false, Bool.false_eq_true, Nat.zero_add, Nat.add_zero, and_true, true_and, or_false, Bool.not_true, Bool.not_false, and_self, wBin_add64, wBin_sub64, wIdx_slice, wIdx_array, wNilc_eq, Int.toNat_natCast, Nat.mul_one, Nat.zero_mul, wSt_agg, wSt_int, wSt_bool, wSt_string, wSt_slice, wSt_ptr, wSt_map, wSt_func, stP_cells, bit_one, bit_zero, bit_one', bit_zero', wBin_shr32, wBin_and1, wBin_rem2, wBin_andNot32, wBin_or32, wBin_and32, wBin_shl32, u32_eq_zero, u32_ne_zero, List.length_cons, List.length_nil, Nat.le_refl, Nat.reduceAdd, Nat.reduceMul, Nat.reduceLeDiff, Int.toNat_zero, Int.toNat_one, d1]
      exact hj _ _ _ ⟨by rw [e]; rfl, hE2⟩
  rintro _ H2 nx2 ⟨rfl, hE2⟩
  have hEE2 := hEK.trans hE2
  have g2 := (hE2.get nx (by omega)).trans kG
  have v2 := (hE2.get (nx + 1) (by omega)).trans kV
  by_cases hfc : fcode N free es = 0
  case neg =>
    have d : decide (fcode N free es = 0) = false := by simp [hfc]
    simp (disch := first | omega | assumption | exact shr_lt (by assumption) | exact ndiff32 (by assumption) | exact below_lt (by omega) | fail) only [List.getD_cons_zero, List.getD_cons_succ, wBin_lss, wBin_leq, wBin_gtr, wBin_geq, wBin_eql, wBin_neq, wIf_bool, wGuard_true, wGuard_false, wPick_true, wPick_false, wUn_not, wFld_eq, wExt_eq, wPart_one, wPart_agg, wLen_slice, wLen_string, wNew_eq, wNm_eq, dBox_agg, dBox_int, dBox_slice, dBox_string, dBox_bool, dBox_map, dBox_ptr, oneCells, wLd_none, wLd_2, wLd_3, wLd_32, ldP_cells, ldP_rom, cellP_one, getH_same, getH_ne, forceV_eq, forceN_eq, hsK_eq, Option.elim_some, List.getElem?_cons_zero, List.getElem?_cons_succ, Yld.val, decide_true, decide_false, if_true, if_false, Bool.false_eq_true, Nat.zero_add, Nat.add_zero, and_true, true_and, or_false, Bool.not_true, Bool.not_false, and_self, wBin_add64, wBin_sub64, wIdx_slice, wIdx_array, wNilc_eq, Int.toNat_natCast, Nat.mul_one, Nat.zero_mul, wSt_agg, wSt_int, wSt_bool, wSt_string, wSt_slice, wSt_ptr, wSt_map, wSt_func, stP_cells, bit_one, bit_zero, bit_one', bit_zero', wBin_shr32, wBin_and1, wBin_rem2, wBin_andNot32, wBin_or32, wBin_and32, wBin_shl32, u32_eq_zero, u32_ne_zero, List.length_cons, List.length_nil, Nat.le_refl, Nat.reduceAdd, Nat.reduceMul, Nat.reduceLeDiff, Int.toNat_zero, Int.toNat_one, d]
    exact ⟨by rw [checkR, if_neg hfc], hEE2⟩
  have d : decide (fcode N free es = 0) = true := by simp [hfc]
  obtain ⟨n, f, rfl, rfl, hn, hf, hle, hes⟩ := fcode_inv hfc
  have hgc : gcode n es = 0 := by
    refine Classical.byContradiction fun h => ?_
    rw [fcode, if_pos h] at hfc
    exact h hfc
  have hR : checkR es n f kind l w = (if kind = 0 then decide (w.length = 0) && accR es n f l
     else if 0 < l.length then false
     else if kind = 1 then obR es n w
     else if kind = 2 then pathR es n f w
     else if kind = 3 then decide (w.length = 3) && trioR es n f (w.getD 0 0) (w.getD 1 0) (w.getD 2 0)
     else false) := by rw [checkR, if_pos hfc]; rfl
  have dw : decide ((w.length : Int) = 0) = decide (w.length = 0) := by congr 1; apply propext; omega
  by_cases h0 : kind = 0
  · have d0 : decide (kind = 0) = true := by simp [h0]
    rw [if_pos h0] at hR
    cases hw0 : decide (w.length = 0) with
    | false =>
      rw [hw0, Bool.false_and] at hR
      simp (disch := first | omega | assumption | exact shr_lt (by assumption) | exact ndiff32 (by assumption) | exact below_lt (by omega) | fail) only [List.getD_cons_zero, List.getD_cons_succ, wBin_lss, wBin_leq, wBin_gtr, wBin_geq, wBin_eql, wBin_neq, wIf_bool, wGuard_true, wGuard_false, wPick_true, wPick_false, wUn_not, wFld_eq, wExt_eq, wPart_one, wPart_agg, wLen_slice, wLen_string, wNew_eq, wNm_eq, dBox_agg, dBox_int, dBox_slice, dBox_string, dBox_bool, dBox_map, dBox_ptr, oneCells, wLd_none, wLd_2, wLd_3, wLd_32, ldP_cells, ldP_rom, cellP_one, getH_same, getH_ne, forceV_eq, forceN_eq, hsK_eq, Option.elim_some, List.getElem?_cons_zero, List.getElem?_cons_succ, Yld.val, decide_true, decide_false, if_true, if_false, Bool.false_eq_true, Nat.zero_add, Nat.add_zero, and_true, true_and, or_false, Bool.not_true, Bool.not_false, and_self, wBin_add64, wBin_sub64, wIdx_slice, wIdx_array, wNilc_eq, Int.toNat_natCast, Nat.mul_one, Nat.zero_mul, wSt_agg, wSt_int, wSt_bool, wSt_string, wSt_slice, wSt_ptr, wSt_map, wSt_func, stP_cells, bit_one, bit_zero, bit_one', bit_zero', wBin_shr32, wBin_and1, wBin_rem2, wBin_andNot32, wBin_or32, wBin_and32, wBin_shl32, u32_eq_zero, u32_ne_zero, List.length_cons, List.length_nil, Nat.le_refl, Nat.reduceAdd, Nat.reduceMul, Nat.reduceLeDiff, Int.toNat_zero, Int.toNat_one, d, g2, v2, d0, hw0]
      exact ⟨by rw [hR], hEE2⟩
    | true =>
      rw [hw0, Bool.true_and] at hR
      simp (disch := first | omega | assumption | exact shr_lt (by assumption) | exact ndiff32 (by assumption) | exact below_lt (by omega) | fail) only [List.getD_cons_zero, List.getD_cons_succ, wBin_lss, wBin_leq, wBin_gtr, wBin_geq, wBin_eql, wBin_neq, wIf_bool, wGuard_true, wGuard_false, wPick_true, wPick_false, wUn_not, wFld_eq, wExt_eq, wPart_one, wPart_agg, wLen_slice, wLen_string, wNew_eq, wNm_eq, dBox_agg, dBox_int, dBox_slice, dBox_string, dBox_bool, dBox_map, dBox_ptr, oneCells, wLd_none, wLd_2, wLd_3, wLd_32, ldP_cells, ldP_rom, cellP_one, getH_same, getH_ne, forceV_eq, forceN_eq, hsK_eq, Option.elim_some, List.getElem?_cons_zero, List.getElem?_cons_succ, Yld.val, decide_true, decide_false, if_true, if_false, Bool.false_eq_true, Nat.zero_add, Nat.add_zero, and_true, true_and, or_false, Bool.not_true, Bool.not_false, and_self, wBin_add64, wBin_sub64, wIdx_slice, wIdx_array, wNilc_eq, Int.toNat_natCast, Nat.mul_one, Nat.zero_mul, wSt_agg, wSt_int, wSt_bool, wSt_string, wSt_slice, wSt_ptr, wSt_map, wSt_func, stP_cells, bit_one, bit_zero, bit_one', bit_zero', wBin_shr32, wBin_and1, wBin_rem2, wBin_andNot32, wBin_or32, wBin_and32, wBin_shl32, u32_eq_zero, u32_ne_zero, List.length_cons, List.length_nil, Nat.le_refl, Nat.reduceAdd, Nat.reduceMul, Nat.reduceLeDiff, Int.toNat_zero, Int.toNat_one, d, g2, v2, d0, hw0, cellP_lit2]
      refine wCall_rule (contained43 hn hf A es cap P l capP _ _ (hS.ext hEE2) hes hle hgc hfc (hP.ext hEE2) (hP0.ext hEE2) hl) ?_
      rintro _ H3 nx3 ⟨rfl, hE3⟩
      exact ⟨by rw [hR], hEE2.trans hE3⟩
  have d0 : decide (kind = 0) = false := by simp [h0]
  rw [if_neg h0] at hR
  by_cases hl0 : 0 < l.length
  · have dl : (0 : Int) < (l.length : Int) := by omega
    rw [if_pos hl0] at hR
    simp (disch := first | omega | assumption | exact shr_lt (by assumption) | exact ndiff32 (by assumption) | exact below_lt (by omega) | fail) only [List.getD_cons_zero, List.getD_cons_succ, wBin_lss, wBin_leq, wBin_gtr, wBin_geq, wBin_eql, wBin_neq, wIf_bool, wGuard_true, wGuard_false, wPick_true, wPick_false, wUn_not, wFld_eq, wExt_eq, wPart_one, wPart_agg, wLen_slice, wLen_string, wNew_eq, wNm_eq, dBox_agg, dBox_int, dBox_slice, dBox_string, dBox_bool, dBox_map, dBox_ptr, oneCells, wLd_none, wLd_2, wLd_3, wLd_32, ldP_cells, ldP_rom, cellP_one, getH_same, getH_ne, forceV_eq, forceN_eq, hsK_eq, Option.elim_some, List.getElem?_cons_zero, List.getElem?_cons_succ, Yld.val, decide_true, decide_false, if_true, if_false, Bool.false_eq_true, Nat.zero_add, Nat.add_zero, and_true, true_and, or_false, Bool.not_true, Bool.not_false, and_self, wBin_add64, wBin_sub64, wIdx_slice, wIdx_array, wNilc_eq, Int.toNat_natCast, Nat.mul_one, Nat.zero_mul, wSt_agg, wSt_int, wSt_bool, wSt_string, wSt_slice, wSt_ptr, wSt_map, wSt_func, stP_cells, bit_one, bit_zero, bit_one', bit_zero', wBin_shr32, wBin_and1, wBin_rem2, wBin_andNot32, wBin_or32, wBin_and32, wBin_shl32, u32_eq_zero, u32_ne_zero, List.length_cons, List.length_nil, Nat.le_refl, Nat.reduceAdd, Nat.reduceMul, Nat.reduceLeDiff, Int.toNat_zero, Int.toNat_one, d, g2, v2, d0, dl]
    exact ⟨by rw [hR], hEE2⟩
  have dl : ¬ (0 : Int) < (l.length : Int) := by omega
  rw [if_neg hl0] at hR
  by_cases h1 : kind = 1
  · have d1 : decide (kind = 1) = true := by simp [h1]
    rw [if_pos h1] at hR
    simp (disch := first | omega | assumption | exact shr_lt (by assumption) | exact ndiff32 (by assumption) | exact below_lt (by omega) | fail) only [List.getD_cons_zero, List.getD_cons_succ, wBin_lss, wBin_leq, wBin_gtr, wBin_geq, wBin_eql, wBin_neq, wIf_bool, wGuard_true, wGuard_false, wPick_true, wPick_false, wUn_not, wFld_eq, wExt_eq, wPart_one, wPart_agg, wLen_slice, wLen_string, wNew_eq, wNm_eq, dBox_agg, dBox_int, dBox_slice, dBox_string, dBox_bool, dBox_map, dBox_ptr, oneCells, wLd_none, wLd_2, wLd_3, wLd_32, ldP_cells, ldP_rom, cellP_one, getH_same, getH_ne, forceV_eq, forceN_eq, hsK_eq, Option.elim_some, List.getElem?_cons_zero, List.getElem?_cons_succ, Yld.val, decide_true, decide_false, if_true, if_false, Bool.false_eq_true, Nat.zero_add, Nat.add_zero, and_true, true_and, or_false, Bool.not_true, Bool.not_false, and_self, wBin_add64, wBin_sub64, wIdx_slice, wIdx_array, wNilc_eq, Int.toNat_natCast, Nat.mul_one, Nat.zero_mul, wSt_agg, wSt_int, wSt_bool, wSt_string, wSt_slice, wSt_ptr, wSt_map, wSt_func, stP_cells, bit_one, bit_zero, bit_one', bit_zero', wBin_shr32, wBin_and1, wBin_rem2, wBin_andNot32, wBin_or32, wBin_and32, wBin_shl32, u32_eq_zero, u32_ne_zero, List.length_cons, List.length_nil, Nat.le_refl, Nat.reduceAdd, Nat.reduceMul, Nat.reduceLeDiff, Int.toNat_zero, Int.toNat_one, d, g2, v2, d0, dl, d1, cellP_lit2]
    refine wCall_rule (obstruction18 hn A es cap W w capW _ _ (hS.ext hEE2) hes hle hgc (hW.ext hEE2) hwl) ?_
    rintro _ H3 nx3 ⟨rfl, hE3⟩
    exact ⟨by rw [hR], hEE2.trans hE3⟩
  have d1 : decide (kind = 1) = false := by simp [h1]
  rw [if_neg h1] at hR
  by_cases h2 : kind = 2
  · have d2 : decide (kind = 2) = true := by simp [h2]
    rw [if_pos h2] at hR
    simp (disch := first | omega | assumption | exact shr_lt (by assumption) | exact ndiff32 (by assumption) | exact below_lt (by omega) | fail) only [List.getD_cons_zero, List.getD_cons_succ, wBin_lss, wBin_leq, wBin_gtr, wBin_geq, wBin_eql, wBin_neq, wIf_bool, wGuard_true, wGuard_false, wPick_true, wPick_false, wUn_not, wFld_eq, wExt_eq, wPart_one, wPart_agg, wLen_slice, wLen_string, wNew_eq, wNm_eq, dBox_agg, dBox_int, dBox_slice, dBox_string, dBox_bool, dBox_map, dBox_ptr, oneCells, wLd_none, wLd_2, wLd_3, wLd_32, ldP_cells, ldP_rom, cellP_one, getH_same, getH_ne, forceV_eq, forceN_eq, hsK_eq, Option.elim_some, List.getElem?_cons_zero, List.getElem?_cons_succ, Yld.val, decide_true, decide_false, if_true, if_false, Bool.false_eq_true, Nat.zero_add, Nat.add_zero, and_true, true_and, or_false, Bool.not_true, Bool.not_false, and_self, wBin_add64, wBin_sub64, wIdx_slice, wIdx_array, wNilc_eq, Int.toNat_natCast, Nat.mul_one, Nat.zero_mul, wSt_agg, wSt_int, wSt_bool, wSt_string, wSt_slice, wSt_ptr, wSt_map, wSt_func, stP_cells, bit_one, bit_zero, bit_one', bit_zero', wBin_shr32, wBin_and1, wBin_rem2, wBin_andNot32, wBin_or32, wBin_and32, wBin_shl32, u32_eq_zero, u32_ne_zero, List.length_cons, List.length_nil, Nat.le_refl, Nat.reduceAdd, Nat.reduceMul, Nat.reduceLeDiff, Int.toNat_zero, Int.toNat_one, d, g2, v2, d0, dl, d1, d2, cellP_lit2]
    refine wCall_rule (path19 hn hf A es cap W w capW _ _ (hS.ext hEE2) hes hle hgc hfc (hW.ext hEE2) hwl) ?_
    rintro _ H3 nx3 ⟨rfl, hE3⟩
    exact ⟨by rw [hR], hEE2.trans hE3⟩
  have d2 : decide (kind = 2) = false := by simp [h2]
  rw [if_neg h2] at hR
  by_cases h3 : kind = 3
  case neg =>
    have d3 : decide (kind = 3) = false := by simp [h3]
    rw [if_neg h3] at hR
    simp (disch := first | omega | assumption | exact shr_lt (by assumption) | exact ndiff32 (by assumption) | exact below_lt (by omega) | fail) only [List.getD_cons_zero, List.getD_cons_succ, wBin_lss, wBin_leq, wBin_gtr, wBin_geq, wBin_eql, wBin_neq, wIf_bool, wGuard_true, wGuard_false, wPick_true, wPick_false, wUn_not, wFld_eq, wExt_eq, wPart_one, wPart_agg, wLen_slice, wLen_string, wNew_eq, wNm_eq, dBox_agg, dBox_int, dBox_slice, dBox_string, dBox_bool, dBox_map, dBox_ptr, oneCells, wLd_none, wLd_2, wLd_3, wLd_32, ldP_cells, ldP_rom, cellP_one, getH_same, getH_ne, forceV_eq, forceN_eq, hsK_eq, Option.elim_some, List.getElem?_cons_zero, List.getElem?_cons_succ, Yld.val, decide_true, decide_false, if_true, if_false, Bool.false_eq_true, Nat.zero_add, Nat.add_zero, and_true, true_and, or_false, Bool.not_true, Bool.not_false, and_self, wBin_add64, wBin_sub64, wIdx_slice, wIdx_array, wNilc_eq, Int.toNat_natCast, Nat.mul_one, Nat.zero_mul, wSt_agg, wSt_int, wSt_bool, wSt_string, wSt_slice, wSt_ptr, wSt_map, wSt_func, stP_cells, bit_one, bit_zero, bit_one', bit_zero', wBin_shr32, wBin_and1, wBin_rem2, wBin_andNot32, wBin_or32, wBin_and32, wBin_shl32, u32_eq_zero, u32_ne_zero, List.length_cons, List.length_nil, Nat.le_refl, Nat.reduceAdd, Nat.reduceMul, Nat.reduceLeDiff, Int.toNat_zero, Int.toNat_one, d, g2, v2, d0, dl, d1, d2, d3]
    exact ⟨by rw [hR], hEE2⟩
  have d3 : decide (kind = 3) = true := by simp [h3]
  rw [if_pos h3] at hR
  by_cases hw3 : w.length = 3
  case neg =>
    have dw3 : decide ((w.length : Int) = 3) = false := by simp; omega
    have e : decide (w.length = 3) = false := by simp [hw3]
    rw [e, Bool.false_and] at hR
    simp (disch := first | omega | assumption | exact shr_lt (by assumption) | exact ndiff32 (by assumption) | exact below_lt (by omega) | fail) only [List.getD_cons_zero, List.getD_cons_succ, wBin_lss, wBin_leq, wBin_gtr, wBin_geq, wBin_eql, wBin_neq, wIf_bool, wGuard_true, wGuard_false, wPick_true, wPick_false, wUn_not, wFld_eq, wExt_eq, wPart_one, wPart_agg, wLen_slice, wLen_string, wNew_eq, wNm_eq, dBox_agg, dBox_int, dBox_slice, dBox_string, dBox_bool, dBox_map, dBox_ptr, oneCells, wLd_none, wLd_2, wLd_3, wLd_32, ldP_cells, ldP_rom, cellP_one, getH_same, getH_ne, forceV_eq, forceN_eq, hsK_eq, Option.elim_some, List.getElem?_cons_zero, List.getElem?_cons_succ, Yld.val, decide_true, decide_false, if_true, if_false, Bool.false_eq_true, Nat.zero_add, Nat.add_zero, and_true, true_and, or_false, Bool.not_true, Bool.not_false, and_self, wBin_add64, wBin_sub64, wIdx_slice, wIdx_array, wNilc_eq, Int.toNat_natCast, Nat.mul_one, Nat.zero_mul, wSt_agg, wSt_int, wSt_bool, wSt_string, wSt_slice, wSt_ptr, wSt_map, wSt_func, stP_cells, bit_one, bit_zero, bit_one', bit_zero', wBin_shr32, wBin_and1, wBin_rem2, wBin_andNot32, wBin_or32, wBin_and32, wBin_shl32, u32_eq_zero, u32_ne_zero, List.length_cons, List.length_nil, Nat.le_refl, Nat.reduceAdd, Nat.reduceMul, Nat.reduceLeDiff, Int.toNat_zero, Int.toNat_one, d, g2, v2, d0, dl, d1, d2, d3, dw3]
    exact ⟨by rw [hR], hEE2.more (by omega)⟩
  have dw3 : decide ((w.length : Int) = 3) = true := by simp; omega
  have e : decide (w.length = 3) = true := by simp [hw3]
  rw [e, Bool.true_and] at hR
  obtain ⟨a, ha⟩ : ∃ a, w[0]? = some a := ⟨_, List.getElem?_eq_getElem (by omega)⟩
  obtain ⟨b, hb⟩ : ∃ b, w[1]? = some b := ⟨_, List.getElem?_eq_getElem (by omega)⟩
  obtain ⟨c, hc⟩ : ∃ c, w[2]? = some c := ⟨_, List.getElem?_eq_getElem (by omega)⟩
  rw [getD_some ha, getD_some hb, getD_some hc] at hR
  obtain ⟨B, o, row, rfl, hBn, hrow, hget⟩ := (hW.ext hEE2).open (i := 0) (by rw [i64s_length]; omega)
  have c0 := hget _ _ (i64s_get ha)
  have c1 := hget _ _ (i64s_get hb)
  have c2 := hget _ _ (i64s_get hc)
  rw [Nat.add_zero] at c0
  have hs2 := fun k => wVf_s2a (m := 3) (a := ⟨B, o, none⟩) (len := w.length) (cap := capW) (by omega) k
  simp (disch := first | omega | assumption | exact shr_lt (by assumption) | exact ndiff32 (by assumption) | exact below_lt (by omega) | fail) only [List.getD_cons_zero, List.getD_cons_succ, wBin_lss, wBin_leq, wBin_gtr, wBin_geq, wBin_eql, wBin_neq, wIf_bool, wGuard_true, wGuard_false, wPick_true, wPick_false, wUn_not, wFld_eq, wExt_eq, wPart_one, wPart_agg, wLen_slice, wLen_string, wNew_eq, wNm_eq, dBox_agg, dBox_int, dBox_slice, dBox_string, dBox_bool, dBox_map, dBox_ptr, oneCells, wLd_none, wLd_2, wLd_3, wLd_32, ldP_cells, ldP_rom, cellP_one, getH_same, getH_ne, forceV_eq, forceN_eq, hsK_eq, Option.elim_some, List.getElem?_cons_zero, List.getElem?_cons_succ, Yld.val, decide_true, decide_false, if_true, if_false, Bool.false_eq_true, Nat.zero_add, Nat.add_zero, and_true, true_and, or_false, Bool.not_true, Bool.not_false, and_self, wBin_add64, wBin_sub64, wIdx_slice, wIdx_array, wNilc_eq, Int.toNat_natCast, Nat.mul_one, Nat.zero_mul, wSt_agg, wSt_int, wSt_bool, wSt_string, wSt_slice, wSt_ptr, wSt_map, wSt_func, stP_cells, bit_one, bit_zero, bit_one', bit_zero', wBin_shr32, wBin_and1, wBin_rem2, wBin_andNot32, wBin_or32, wBin_and32, wBin_shl32, u32_eq_zero, u32_ne_zero, List.length_cons, List.length_nil, Nat.le_refl, Nat.reduceAdd, Nat.reduceMul, Nat.reduceLeDiff, Int.toNat_zero, Int.toNat_one, d, g2, v2, d0, dl, d1, d2, d3, dw3, hs2, ldP_row hrow, cellP_3 c0 c1 c2, cellP_lit2]
  refine wCall_rule (trio20 hn hf A es cap a b c _ _ (hS.ext (hEE2.more (show nx2 ≤ nx2 + 14 by omega))) hes hle hgc hfc) ?_
  rintro _ H3 nx3 ⟨rfl, hE3⟩
  exact ⟨by rw [hR], (hEE2.more (show nx2 ≤ nx2 + 14 by omega)).trans hE3⟩
end Go.Proofs.YtdecggbglnbhlaaGreatDoor
