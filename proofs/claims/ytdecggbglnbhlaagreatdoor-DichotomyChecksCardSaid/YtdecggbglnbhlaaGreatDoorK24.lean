/-
  Contract: the reference's Accepts; plain: what it says of the program's bags.
-/
import Derived.Test.YtdecggbglnbhlaaGreatDoorK23
set_option linter.unusedSimpArgs false
set_option linter.unusedVariables false
set_option linter.unusedSectionVars false
namespace Go.Proofs.YtdecggbglnbhlaaGreatDoor
open Go.Clo

theorem wBin_subOne {a : Nat} (h : 1 ≤ a) (ha : a < 4294967296) (k : VP) : wBin .sub (.int .u32 (a : Int)) (.int .u32 1) k = k (.int .u32 ((a - 1 : Nat) : Int)) := by
  rw [wBin_sub]
  have e : (a : Int) - 1 = ((a - 1 : Nat) : Int) := by omega
  rw [e, u32_wrap (by omega)]

/-! Plain. -/
def accB (es : List Nat) (n : Nat) : Nb → List Nat → Bool
  | _, [] => true
  | N, v :: rest => insB es (maskOf (keyB N v rest) n ||| 2 ^ v) && accB es n (stepN N v rest) rest
theorem outs_other (n : Nat) : ∀ (order : List Nat) (out : List Bag) (N : Nb) (w : Nat), w ∉ order → (outs n out N order)[w]? = out[w]?
  | [], out, N, w, _ => rfl
  | v :: rest, out, N, w, h => by
    simp only [List.mem_cons, not_or] at h
    unfold outs
    rw [outs_other n rest _ _ w h.2, List.getElem?_set, if_neg (fun e => h.1 e.symm)]
theorem setOf_bag {n v : Nat} {N : Nb} {rest : List Nat} (hv : v < 32) : setOf (bagOf n N v rest) = maskOf (keyB N v rest) n ||| 2 ^ v := by
  unfold setOf bagOf
  dsimp only
  rw [if_neg (by omega)]; rfl
theorem outs_acc (es : List Nat) (n : Nat) : ∀ (order : List Nat) (out : List Bag) (N : Nb), order.Nodup → (∀ w ∈ order, w < out.length ∧ w < 32) →
    ((∀ w ∈ order, ∀ b, (outs n out N order)[w]? = some b → insB es (setOf b) = true) ↔ accB es n N order = true)
  | [], out, N, _, _ => by simp [accB]
  | v :: rest, out, N, hnd, hlt => by
    rw [List.nodup_cons] at hnd
    have hv := hlt v List.mem_cons_self
    have ih := outs_acc es n rest (out.set v (bagOf n N v rest)) (stepN N v rest) hnd.2 fun w hw => by rw [List.length_set]; exact hlt w (List.mem_cons_of_mem _ hw)
    have hvb : (outs n out N (v :: rest))[v]? = some (bagOf n N v rest) := by
      unfold outs
      rw [outs_other n rest _ _ v hnd.1, List.getElem?_set, if_pos rfl, if_pos hv.1]
    unfold accB
    rw [Bool.and_eq_true, ← ih, ← setOf_bag hv.2]
    constructor
    · intro h
      exact ⟨h v List.mem_cons_self _ hvb, fun w hw b hb => h w (List.mem_cons_of_mem _ hw) b hb⟩
    · rintro ⟨h1, h2⟩ w hw b hb
      rcases List.mem_cons.1 hw with rfl | hw
      · rw [hvb] at hb; cases hb; exact h1
      · exact h2 w hw b hb
theorem map_cast_inj : ∀ {a b : List Nat}, (a.map fun (w : Nat) => (w : Int)) = (b.map fun (w : Nat) => (w : Int)) → a = b
  | [], [], _ => rfl
  | [], _ :: _, h => by simp at h
  | _ :: _, [], h => by simp at h
  | x :: a, y :: b, h => by
    simp only [List.map_cons, List.cons.injEq] at h
    rw [map_cast_inj h.2]
    have := h.1
    congr 1; omega
theorem and_mask (p q : Nat → Bool) (n : Nat) : maskOf p n &&& maskOf q n = maskOf (fun w => p w && q w) n := by
  apply Nat.eq_of_testBit_eq
  intro w
  rw [Nat.testBit_and, maskOf_bit, maskOf_bit, maskOf_bit]
  cases decide (w < n) <;> simp
theorem left_step {v n : Nat} {rest : List Nat} (hv : v ∉ rest) : ndiff (maskOf (fun w => decide (w ∈ v :: rest)) n) (2 ^ v) = maskOf (fun w => decide (w ∈ rest)) n := by
  apply Nat.eq_of_testBit_eq
  intro w
  rw [ndiff_bit, maskOf_bit, maskOf_bit, Nat.testBit_two_pow]
  by_cases h : v = w
  · subst h; simp [hv]
  · have h' : ¬ w = v := fun e => h e.symm
    simp [h, h']
theorem left_all {order : List Nat} {n : Nat} (hall : ∀ w, w < n → w ∈ order) : 2 ^ n - 1 = maskOf (fun w => decide (w ∈ order)) n := by
  apply Nat.eq_of_testBit_eq
  intro w
  rw [Nat.testBit_two_pow_sub_one, maskOf_bit]
  by_cases h : w < n
  · simp [h, hall w h]
  · simp [h]
theorem near_step {N : Nb} (hN : NbOK N) {v w n : Nat} {rest : List Nat} (hk : keyB N v rest w = true) : ndiff (maskOf (N w) n ||| maskOf (keyB N v rest) n) (2 ^ w) = maskOf (stepN N v rest w) n := by
  apply Nat.eq_of_testBit_eq
  intro x
  rw [ndiff_bit, Nat.testBit_or, maskOf_bit, maskOf_bit, maskOf_bit, Nat.testBit_two_pow]
  unfold stepN
  by_cases h : w = x
  · subst h; simp [hN.irr]
  · have h' : decide (w ≠ x) = true := by simp [h]
    rw [h', hk]
    cases decide (x < n) <;> simp [h]
theorem near_skip {N : Nb} {v w : Nat} {rest : List Nat} (hk : keyB N v rest w = false) : stepN N v rest w = N w := by
  funext x
  simp [stepN, hk]

set_option maxHeartbeats 2000000 in
theorem accepts17 {n f : Nat} (hn : n < 32) (hf : f ≤ n) (A : Option Addr) (es : List Nat) (cap : Nat) (P : Option Addr) (l : List Int) (capP : Nat) (order : List Nat) (H : Heap) (nx : Nat) (hS : Sl H nx A (u32s es)) (hsm : ∀ e ∈ es, e < 2 ^ n) (hle : es.length ≤ 64)
    (hP : Sl H nx P (i64s l)) (hP0 : Has H nx P) (hl : l.length ≤ 40) (ho : l ++ downTo f f = order.map fun (w : Nat) => (w : Int)) (hnd : order.Nodup) (hlt : ∀ w ∈ order, w < n) (hlen : order.length = n) :
    Ans Tryz.prog 17 [.slice A es.length cap, .int .i64 (n : Int), .int .i64 (f : Int), .slice P l.length capP] H nx fun r H' nx' => r = .bool (accB es n (adj es) order) ∧ Ext H nx H' nx' := by
  have hsm32 : Small es := fun e he => Nat.lt_of_lt_of_le (hsm e he) (Nat.le_trans (Nat.pow_le_pow_right (by omega) (show n ≤ 32 by omega)) (by decide))
  refine spec17 ?_
  unfold F17
  simp (disch := first | omega | assumption | exact shr_lt (by assumption) | exact ndiff32 (by assumption) | exact below_lt (by omega) | fail) only [List.getD_cons_zero, List.getD_cons_succ, wBin_lss, wBin_leq, wBin_gtr, wBin_geq, wBin_eql, wBin_neq, wIf_bool, wGuard_true, wGuard_false, wPick_true, wPick_false, wUn_not, wFld_eq, wExt_eq, wPart_one, wPart_agg, wLen_slice, wLen_string, wNew_eq, wNm_eq, dBox_agg, dBox_int, dBox_slice, dBox_string, dBox_bool, dBox_map, dBox_ptr, oneCells, wLd_none, wLd_2, wLd_3, wLd_32, ldP_cells, ldP_rom, cellP_one, getH_same, getH_ne, forceV_eq, forceN_eq, hsK_eq, Option.elim_some, List.getElem?_cons_zero, List.getElem?_cons_succ, Yld.val, decide_true, decide_false, if_true, if_false, Bool.false_eq_true, Nat.zero_add, Nat.add_zero, and_true, true_and, or_false, Bool.not_true, Bool.not_false, and_self, wBin_add64, wBin_sub64, wIdx_slice, wIdx_array, wNilc_eq, Int.toNat_natCast, Nat.mul_one, Nat.zero_mul, wSt_agg, wSt_int, wSt_bool, wSt_string, wSt_slice, wSt_ptr, wSt_map, wSt_func, stP_cells, bit_one, bit_zero, bit_one', bit_zero', wBin_shr32, wBin_and1, wBin_rem2, wBin_andNot32, wBin_or32, wBin_and32, wBin_shl32, u32_eq_zero, u32_ne_zero, List.length_cons, List.length_nil, Nat.le_refl, Nat.reduceAdd, Nat.reduceMul, Nat.reduceLeDiff, Int.toNat_zero, Int.toNat_one, dBsl_none]
  have hX : Ext H nx (hs H nx (some (.cells [] 0))) (nx + 1) := (Ext.refl H nx).new _ (Nat.le_refl _) (by omega)
  refine wApp_litL (lo := nx) (H0 := H) (getH_same _ _ _) (Nat.le_refl _) (by omega) (src_any (hP.ext hX) (hP0.ext hX) (by rw [i64s_length]; omega) (by omega)) (oneCells_i64s l) (by omega) (by omega) hX ?_
  intro v1 H1 nx1 _ hA1 hE1
  refine wLoop_rule (m := f) (fun m L H' nx' => ∃ (i : Nat) (u : Value), m + i = f ∧ L = [u, .int .i64 ((f : Int) - 1 - i)] ∧ AccL nx H' nx' u (i64s (l ++ downTo f i)) ∧ Ext H nx H' nx') ?_ ⟨0, v1, rfl, by simp, by simpa [downTo] using hA1, hE1⟩
  rintro m ih L H2 nx2 ⟨i, u, hm, rfl, hA2, hE2⟩ hih
  have hle2 := hE2.le
  simp (disch := first | omega | assumption | exact shr_lt (by assumption) | exact ndiff32 (by assumption) | exact below_lt (by omega) | fail) only [List.getD_cons_zero, List.getD_cons_succ, wBin_lss, wBin_leq, wBin_gtr, wBin_geq, wBin_eql, wBin_neq, wIf_bool, wGuard_true, wGuard_false, wPick_true, wPick_false, wUn_not, wFld_eq, wExt_eq, wPart_one, wPart_agg, wLen_slice, wLen_string, wNew_eq, wNm_eq, dBox_agg, dBox_int, dBox_slice, dBox_string, dBox_bool, dBox_map, dBox_ptr, oneCells, wLd_none, wLd_2, wLd_3, wLd_32, ldP_cells, ldP_rom, cellP_one, getH_same, getH_ne, forceV_eq, forceN_eq, hsK_eq, Option.elim_some, List.getElem?_cons_zero, List.getElem?_cons_succ, Yld.val, decide_true, decide_false, if_true, if_false, Bool.false_eq_true, Nat.zero_add, Nat.add_zero, and_true, true_and, or_false, Bool.not_true, Bool.not_false, and_self, wBin_add64, wBin_sub64, wIdx_slice, wIdx_array, wNilc_eq, Int.toNat_natCast, Nat.mul_one, Nat.zero_mul, wSt_agg, wSt_int, wSt_bool, wSt_string, wSt_slice, wSt_ptr, wSt_map, wSt_func, stP_cells, bit_one, bit_zero, bit_one', bit_zero', wBin_shr32, wBin_and1, wBin_rem2, wBin_andNot32, wBin_or32, wBin_and32, wBin_shl32, u32_eq_zero, u32_ne_zero, List.length_cons, List.length_nil, Nat.le_refl, Nat.reduceAdd, Nat.reduceMul, Nat.reduceLeDiff, Int.toNat_zero, Int.toNat_one]
  by_cases hi : i < f
  · have hi' : (f : Int) - 1 - i ≥ 0 := by omega
    have hbs : ∀ (x : Int) k, dBsl 1 1 [.int .i64 0] [(0, .int .i64 x)] k = k [.int .i64 x] := fun x k => rfl
    simp (disch := first | omega | assumption | exact shr_lt (by assumption) | exact ndiff32 (by assumption) | exact below_lt (by omega) | fail) only [List.getD_cons_zero, List.getD_cons_succ, wBin_lss, wBin_leq, wBin_gtr, wBin_geq, wBin_eql, wBin_neq, wIf_bool, wGuard_true, wGuard_false, wPick_true, wPick_false, wUn_not, wFld_eq, wExt_eq, wPart_one, wPart_agg, wLen_slice, wLen_string, wNew_eq, wNm_eq, dBox_agg, dBox_int, dBox_slice, dBox_string, dBox_bool, dBox_map, dBox_ptr, oneCells, wLd_none, wLd_2, wLd_3, wLd_32, ldP_cells, ldP_rom, cellP_one, getH_same, getH_ne, forceV_eq, forceN_eq, hsK_eq, Option.elim_some, List.getElem?_cons_zero, List.getElem?_cons_succ, Yld.val, decide_true, decide_false, if_true, if_false, Bool.false_eq_true, Nat.zero_add, Nat.add_zero, and_true, true_and, or_false, Bool.not_true, Bool.not_false, and_self, wBin_add64, wBin_sub64, wIdx_slice, wIdx_array, wNilc_eq, Int.toNat_natCast, Nat.mul_one, Nat.zero_mul, wSt_agg, wSt_int, wSt_bool, wSt_string, wSt_slice, wSt_ptr, wSt_map, wSt_func, stP_cells, bit_one, bit_zero, bit_one', bit_zero', wBin_shr32, wBin_and1, wBin_rem2, wBin_andNot32, wBin_or32, wBin_and32, wBin_shl32, u32_eq_zero, u32_ne_zero, List.length_cons, List.length_nil, Nat.le_refl, Nat.reduceAdd, Nat.reduceMul, Nat.reduceLeDiff, Int.toNat_zero, Int.toNat_one, hi', hbs]
    have hE3 : Ext H2 nx2 (hs H2 nx2 (some (.cells [.int .i64 ((f : Int) - 1 - i)] 0))) (nx2 + 1) := (Ext.refl _ _).new _ (Nat.le_refl _) (by omega)
    have hdl := downTo_length f i
    refine wApp_accL (H0 := H) (lo := nx) (y := .int .i64 ((f : Int) - 1 - i)) (hA2.ext hE3) (src_new (getH_same _ _ _) rfl (by omega)) rfl (by omega) (by rw [i64s_length, List.length_append]; omega) (hE2.trans hE3) (by omega) ?_
    intro v' H' hA' hE' _
    refine hih (m - 1) _ _ _ (by omega) ⟨i + 1, v', by omega, by simp; omega, ?_, hE'⟩
    have e : i64s (l ++ downTo f (i + 1)) = i64s (l ++ downTo f i) ++ [.int .i64 ((f : Int) - 1 - i)] := by simp [downTo, i64s]
    rw [e]; exact hA'
  have hi' : ¬ (f : Int) - 1 - i ≥ 0 := by omega
  have : i = f := by omega
  subst this
  rw [ho] at hA2
  obtain ⟨B, rfl, hSB, _⟩ := hA2.sl
  have hBn : (i64s (order.map fun (w : Nat) => (w : Int))).length = n := by simp [i64s, hlen]
  rw [hBn]
  have hp := Nat.pow_lt_pow_right (a := 2) (by omega) hn
  have hp1 : 1 ≤ 2 ^ n := Nat.pow_pos (by omega)
  simp (disch := first | omega | assumption | exact shr_lt (by assumption) | exact ndiff32 (by assumption) | exact below_lt (by omega) | fail) only [List.getD_cons_zero, List.getD_cons_succ, wBin_lss, wBin_leq, wBin_gtr, wBin_geq, wBin_eql, wBin_neq, wIf_bool, wGuard_true, wGuard_false, wPick_true, wPick_false, wUn_not, wFld_eq, wExt_eq, wPart_one, wPart_agg, wLen_slice, wLen_string, wNew_eq, wNm_eq, dBox_agg, dBox_int, dBox_slice, dBox_string, dBox_bool, dBox_map, dBox_ptr, oneCells, wLd_none, wLd_2, wLd_3, wLd_32, ldP_cells, ldP_rom, cellP_one, getH_same, getH_ne, forceV_eq, forceN_eq, hsK_eq, Option.elim_some, List.getElem?_cons_zero, List.getElem?_cons_succ, Yld.val, decide_true, decide_false, if_true, if_false, Bool.false_eq_true, Nat.zero_add, Nat.add_zero, and_true, true_and, or_false, Bool.not_true, Bool.not_false, and_self, wBin_add64, wBin_sub64, wIdx_slice, wIdx_array, wNilc_eq, Int.toNat_natCast, Nat.mul_one, Nat.zero_mul, wSt_agg, wSt_int, wSt_bool, wSt_string, wSt_slice, wSt_ptr, wSt_map, wSt_func, stP_cells, bit_one, bit_zero, bit_one', bit_zero', wBin_shr32, wBin_and1, wBin_rem2, wBin_andNot32, wBin_or32, wBin_and32, wBin_shl32, u32_eq_zero, u32_ne_zero, List.length_cons, List.length_nil, Nat.le_refl, Nat.reduceAdd, Nat.reduceMul, Nat.reduceLeDiff, Int.toNat_zero, Int.toNat_one, hi']
  refine wCall_rule (near34 (n := n) (by omega) A es cap H2 nx2 (hS.ext hE2) hsm hle) ?_
  rintro _ H3 nx3 ⟨q, hq1, hq2, rfl, hgq, hE3⟩
  have hall : ∀ w, w < n → w ∈ order := fun w hw => order_all hnd hlt hlen hw
  simp (disch := first | omega | assumption | exact shr_lt (by assumption) | exact ndiff32 (by assumption) | exact below_lt (by omega) | fail) only [List.getD_cons_zero, List.getD_cons_succ, wBin_lss, wBin_leq, wBin_gtr, wBin_geq, wBin_eql, wBin_neq, wIf_bool, wGuard_true, wGuard_false, wPick_true, wPick_false, wUn_not, wFld_eq, wExt_eq, wPart_one, wPart_agg, wLen_slice, wLen_string, wNew_eq, wNm_eq, dBox_agg, dBox_int, dBox_slice, dBox_string, dBox_bool, dBox_map, dBox_ptr, oneCells, wLd_none, wLd_2, wLd_3, wLd_32, ldP_cells, ldP_rom, cellP_one, getH_same, getH_ne, forceV_eq, forceN_eq, hsK_eq, Option.elim_some, List.getElem?_cons_zero, List.getElem?_cons_succ, Yld.val, decide_true, decide_false, if_true, if_false, Bool.false_eq_true, Nat.zero_add, Nat.add_zero, and_true, true_and, or_false, Bool.not_true, Bool.not_false, and_self, wBin_add64, wBin_sub64, wIdx_slice, wIdx_array, wNilc_eq, Int.toNat_natCast, Nat.mul_one, Nat.zero_mul, wSt_agg, wSt_int, wSt_bool, wSt_string, wSt_slice, wSt_ptr, wSt_map, wSt_func, stP_cells, bit_one, bit_zero, bit_one', bit_zero', wBin_shr32, wBin_and1, wBin_rem2, wBin_andNot32, wBin_or32, wBin_and32, wBin_shl32, u32_eq_zero, u32_ne_zero, List.length_cons, List.length_nil, Nat.le_refl, Nat.reduceAdd, Nat.reduceMul, Nat.reduceLeDiff, Int.toNat_zero, Int.toNat_one, wConv_u64, wBin_subOne, left_all hall]
  refine wLoop_rule (m := n) (fun m L H' nx' => ∃ (i : Nat) (N : Nb), m + i = n ∧ L = [.int .u32 ((maskOf (fun w => decide (w ∈ order.drop i)) n : Nat) : Int), .int .i64 (i : Int)] ∧ NbOK N ∧ accB es n (adj es) order = accB es n N (order.drop i) ∧
      getH H' q = some (.cells (u32s (nearL N n)) 0) ∧ Ext H2 nx2 H' nx' ∧ q < nx') ?_ ⟨0, adj es, rfl, by simp, adj_ok es, by simp, hgq, hE3, hq2⟩
  rintro m3 ih3 L3 H4 nx4 ⟨i, N, hm3, rfl, hN, hacc, hg4, hE4, hnx4⟩ hih3
  simp (disch := first | omega | assumption | exact shr_lt (by assumption) | exact ndiff32 (by assumption) | exact below_lt (by omega) | fail) only [List.getD_cons_zero, List.getD_cons_succ, wBin_lss, wBin_leq, wBin_gtr, wBin_geq, wBin_eql, wBin_neq, wIf_bool, wGuard_true, wGuard_false, wPick_true, wPick_false, wUn_not, wFld_eq, wExt_eq, wPart_one, wPart_agg, wLen_slice, wLen_string, wNew_eq, wNm_eq, dBox_agg, dBox_int, dBox_slice, dBox_string, dBox_bool, dBox_map, dBox_ptr, oneCells, wLd_none, wLd_2, wLd_3, wLd_32, ldP_cells, ldP_rom, cellP_one, getH_same, getH_ne, forceV_eq, forceN_eq, hsK_eq, Option.elim_some, List.getElem?_cons_zero, List.getElem?_cons_succ, Yld.val, decide_true, decide_false, if_true, if_false, Bool.false_eq_true, Nat.zero_add, Nat.add_zero, and_true, true_and, or_false, Bool.not_true, Bool.not_false, and_self, wBin_add64, wBin_sub64, wIdx_slice, wIdx_array, wNilc_eq, Int.toNat_natCast, Nat.mul_one, Nat.zero_mul, wSt_agg, wSt_int, wSt_bool, wSt_string, wSt_slice, wSt_ptr, wSt_map, wSt_func, stP_cells, bit_one, bit_zero, bit_one', bit_zero', wBin_shr32, wBin_and1, wBin_rem2, wBin_andNot32, wBin_or32, wBin_and32, wBin_shl32, u32_eq_zero, u32_ne_zero, List.length_cons, List.length_nil, Nat.le_refl, Nat.reduceAdd, Nat.reduceMul, Nat.reduceLeDiff, Int.toNat_zero, Int.toNat_one]
  by_cases hin : i < n
  case neg =>
    have hin' : ¬ (i : Int) < (n : Int) := by omega
    simp (disch := first | omega | assumption | exact shr_lt (by assumption) | exact ndiff32 (by assumption) | exact below_lt (by omega) | fail) only [List.getD_cons_zero, List.getD_cons_succ, wBin_lss, wBin_leq, wBin_gtr, wBin_geq, wBin_eql, wBin_neq, wIf_bool, wGuard_true, wGuard_false, wPick_true, wPick_false, wUn_not, wFld_eq, wExt_eq, wPart_one, wPart_agg, wLen_slice, wLen_string, wNew_eq, wNm_eq, dBox_agg, dBox_int, dBox_slice, dBox_string, dBox_bool, dBox_map, dBox_ptr, oneCells, wLd_none, wLd_2, wLd_3, wLd_32, ldP_cells, ldP_rom, cellP_one, getH_same, getH_ne, forceV_eq, forceN_eq, hsK_eq, Option.elim_some, List.getElem?_cons_zero, List.getElem?_cons_succ, Yld.val, decide_true, decide_false, if_true, if_false, Bool.false_eq_true, Nat.zero_add, Nat.add_zero, and_true, true_and, or_false, Bool.not_true, Bool.not_false, and_self, wBin_add64, wBin_sub64, wIdx_slice, wIdx_array, wNilc_eq, Int.toNat_natCast, Nat.mul_one, Nat.zero_mul, wSt_agg, wSt_int, wSt_bool, wSt_string, wSt_slice, wSt_ptr, wSt_map, wSt_func, stP_cells, bit_one, bit_zero, bit_one', bit_zero', wBin_shr32, wBin_and1, wBin_rem2, wBin_andNot32, wBin_or32, wBin_and32, wBin_shl32, u32_eq_zero, u32_ne_zero, List.length_cons, List.length_nil, Nat.le_refl, Nat.reduceAdd, Nat.reduceMul, Nat.reduceLeDiff, Int.toNat_zero, Int.toNat_one, hin']
    rw [hacc, List.drop_eq_nil_of_le (by omega)]
    exact ⟨rfl, hE2.trans hE4⟩
  have hin' : (i : Int) < (n : Int) := by omega
  obtain ⟨v, hv⟩ : ∃ v, order[i]? = some v := ⟨_, List.getElem?_eq_getElem (by omega)⟩
  have hvn : v < n := hlt v (List.mem_of_getElem? hv)
  have hvi : (v : Int) < (n : Int) := by omega
  have hdr := drop_get hv
  have hvr := not_mem_drop hnd hv
  obtain ⟨b, o, row, rfl, hb, hrow, hget⟩ := (hSB.ext hE4).open (i := i) (by rw [hBn]; omega)
  have g0 := hget i (.int .i64 (v : Int)) (i64s_get (by rw [List.getElem?_map, hv]; rfl))
  rw [hdr] at hacc
  rw [hdr]
  generalize order.drop (i + 1) = rest at hdr hvr hacc
  replace hacc : accB es n (adj es) order = (insB es (maskOf (keyB N v rest) n ||| 2 ^ v) && accB es n (stepN N v rest) rest) := hacc
  have gv := u32s_get (nearL_get N hvn)
  have hpv : 2 ^ v < 4294967296 := pow32 (by omega)
  have k1 := maskOf32 (n := n) (by omega) (fun w => decide (w ∈ v :: rest))
  have k2 := maskOf32 (n := n) (by omega) (fun w => decide (w ∈ rest))
  have k3 := maskOf32 (n := n) (by omega) (N v)
  have k4 := maskOf32 (n := n) (by omega) (keyB N v rest)
  have eand : maskOf (N v) n &&& maskOf (fun w => decide (w ∈ rest)) n = maskOf (keyB N v rest) n := and_mask _ _ _
  simp (disch := first | omega | assumption | exact shr_lt (by assumption) | exact ndiff32 (by assumption) | exact below_lt (by omega) | fail) only [List.getD_cons_zero, List.getD_cons_succ, wBin_lss, wBin_leq, wBin_gtr, wBin_geq, wBin_eql, wBin_neq, wIf_bool, wGuard_true, wGuard_false, wPick_true, wPick_false, wUn_not, wFld_eq, wExt_eq, wPart_one, wPart_agg, wLen_slice, wLen_string, wNew_eq, wNm_eq, dBox_agg, dBox_int, dBox_slice, dBox_string, dBox_bool, dBox_map, dBox_ptr, oneCells, wLd_none, wLd_2, wLd_3, wLd_32, ldP_cells, ldP_rom, cellP_one, getH_same, getH_ne, forceV_eq, forceN_eq, hsK_eq, Option.elim_some, List.getElem?_cons_zero, List.getElem?_cons_succ, Yld.val, decide_true, decide_false, if_true, if_false, Bool.false_eq_true, Nat.zero_add, Nat.add_zero, and_true, true_and, or_false, Bool.not_true, Bool.not_false, and_self, wBin_add64, wBin_sub64, wIdx_slice, wIdx_array, wNilc_eq, Int.toNat_natCast, Nat.mul_one, Nat.zero_mul, wSt_agg, wSt_int, wSt_bool, wSt_string, wSt_slice, wSt_ptr, wSt_map, wSt_func, stP_cells, bit_one, bit_zero, bit_one', bit_zero', wBin_shr32, wBin_and1, wBin_rem2, wBin_andNot32, wBin_or32, wBin_and32, wBin_shl32, u32_eq_zero, u32_ne_zero, List.length_cons, List.length_nil, Nat.le_refl, Nat.reduceAdd, Nat.reduceMul, Nat.reduceLeDiff, Int.toNat_zero, Int.toNat_one, hin', ldP_row hrow, g0, wConv_u64, left_step hvr, hvi, hg4, gv, eand]
  refine wCall_rule (inside35 (or32 k4 hpv) A es cap _ _ (hS.ext (hE2.trans hE4)) hsm32 hle) ?_
  rintro _ _ _ ⟨rfl, rfl, rfl⟩
  have hne : decide (maskOf (keyB N v rest) n ||| 2 ^ v = 0) = false := by
    rw [decide_eq_false_iff_not]
    intro h
    have := congrArg (fun x => x.testBit v) h
    simp at this
  rw [hne, Bool.or_false]
  cases hins : insB es (maskOf (keyB N v rest) n ||| 2 ^ v) with
  | false =>
    rw [hins, Bool.false_and] at hacc
    simp (disch := first | omega | assumption | exact shr_lt (by assumption) | exact ndiff32 (by assumption) | exact below_lt (by omega) | fail) only [List.getD_cons_zero, List.getD_cons_succ, wBin_lss, wBin_leq, wBin_gtr, wBin_geq, wBin_eql, wBin_neq, wIf_bool, wGuard_true, wGuard_false, wPick_true, wPick_false, wUn_not, wFld_eq, wExt_eq, wPart_one, wPart_agg, wLen_slice, wLen_string, wNew_eq, wNm_eq, dBox_agg, dBox_int, dBox_slice, dBox_string, dBox_bool, dBox_map, dBox_ptr, oneCells, wLd_none, wLd_2, wLd_3, wLd_32, ldP_cells, ldP_rom, cellP_one, getH_same, getH_ne, forceV_eq, forceN_eq, hsK_eq, Option.elim_some, List.getElem?_cons_zero, List.getElem?_cons_succ, Yld.val, decide_true, decide_false, if_true, if_false, Bool.false_eq_true, Nat.zero_add, Nat.add_zero, and_true, true_and, or_false, Bool.not_true, Bool.not_false, and_self, wBin_add64, wBin_sub64, wIdx_slice, wIdx_array, wNilc_eq, Int.toNat_natCast, Nat.mul_one, Nat.zero_mul, wSt_agg, wSt_int, wSt_bool, wSt_string, wSt_slice, wSt_ptr, wSt_map, wSt_func, stP_cells, bit_one, bit_zero, bit_one', bit_zero', wBin_shr32, wBin_and1, wBin_rem2, wBin_andNot32, wBin_or32, wBin_and32, wBin_shl32, u32_eq_zero, u32_ne_zero, List.length_cons, List.length_nil, Nat.le_refl, Nat.reduceAdd, Nat.reduceMul, Nat.reduceLeDiff, Int.toNat_zero, Int.toNat_one]
    rw [hacc]
    exact ⟨rfl, hE2.trans hE4⟩
  | true =>
    rw [hins, Bool.true_and] at hacc
    simp (disch := first | omega | assumption | exact shr_lt (by assumption) | exact ndiff32 (by assumption) | exact below_lt (by omega) | fail) only [List.getD_cons_zero, List.getD_cons_succ, wBin_lss, wBin_leq, wBin_gtr, wBin_geq, wBin_eql, wBin_neq, wIf_bool, wGuard_true, wGuard_false, wPick_true, wPick_false, wUn_not, wFld_eq, wExt_eq, wPart_one, wPart_agg, wLen_slice, wLen_string, wNew_eq, wNm_eq, dBox_agg, dBox_int, dBox_slice, dBox_string, dBox_bool, dBox_map, dBox_ptr, oneCells, wLd_none, wLd_2, wLd_3, wLd_32, ldP_cells, ldP_rom, cellP_one, getH_same, getH_ne, forceV_eq, forceN_eq, hsK_eq, Option.elim_some, List.getElem?_cons_zero, List.getElem?_cons_succ, Yld.val, decide_true, decide_false, if_true, if_false, Bool.false_eq_true, Nat.zero_add, Nat.add_zero, and_true, true_and, or_false, Bool.not_true, Bool.not_false, and_self, wBin_add64, wBin_sub64, wIdx_slice, wIdx_array, wNilc_eq, Int.toNat_natCast, Nat.mul_one, Nat.zero_mul, wSt_agg, wSt_int, wSt_bool, wSt_string, wSt_slice, wSt_ptr, wSt_map, wSt_func, stP_cells, bit_one, bit_zero, bit_one', bit_zero', wBin_shr32, wBin_and1, wBin_rem2, wBin_andNot32, wBin_or32, wBin_and32, wBin_shl32, u32_eq_zero, u32_ne_zero, List.length_cons, List.length_nil, Nat.le_refl, Nat.reduceAdd, Nat.reduceMul, Nat.reduceLeDiff, Int.toNat_zero, Int.toNat_one]
    refine wLoop_rule (m := n) (fun m L H' nx' => ∃ (w : Nat) (l3 : List Nat), m + w = n ∧ L = [.int .i64 (w : Int)] ∧ l3.length = n ∧ (∀ x, x < n → l3[x]? = some (if x < w then maskOf (stepN N v rest x) n else maskOf (N x) n)) ∧
        getH H' q = some (.cells (u32s l3) 0) ∧ Ext H2 nx2 H' nx' ∧ q < nx') ?_ ⟨0, nearL N n, rfl, rfl, nearL_len _ _, fun x hx => by rw [nearL_get _ hx]; simp, hg4, hE4, hnx4⟩
    rintro m5 ih5 L5 H5 nx5 ⟨w, l3, hm5, rfl, hl3, hval, hg5, hE5, hnx5⟩ hih5
    have hlen3 : (u32s l3).length = n := by rw [u32s_length]; exact hl3
    simp (disch := first | omega | assumption | exact shr_lt (by assumption) | exact ndiff32 (by assumption) | exact below_lt (by omega) | fail) only [List.getD_cons_zero, List.getD_cons_succ, wBin_lss, wBin_leq, wBin_gtr, wBin_geq, wBin_eql, wBin_neq, wIf_bool, wGuard_true, wGuard_false, wPick_true, wPick_false, wUn_not, wFld_eq, wExt_eq, wPart_one, wPart_agg, wLen_slice, wLen_string, wNew_eq, wNm_eq, dBox_agg, dBox_int, dBox_slice, dBox_string, dBox_bool, dBox_map, dBox_ptr, oneCells, wLd_none, wLd_2, wLd_3, wLd_32, ldP_cells, ldP_rom, cellP_one, getH_same, getH_ne, forceV_eq, forceN_eq, hsK_eq, Option.elim_some, List.getElem?_cons_zero, List.getElem?_cons_succ, Yld.val, decide_true, decide_false, if_true, if_false, Bool.false_eq_true, Nat.zero_add, Nat.add_zero, and_true, true_and, or_false, Bool.not_true, Bool.not_false, and_self, wBin_add64, wBin_sub64, wIdx_slice, wIdx_array, wNilc_eq, Int.toNat_natCast, Nat.mul_one, Nat.zero_mul, wSt_agg, wSt_int, wSt_bool, wSt_string, wSt_slice, wSt_ptr, wSt_map, wSt_func, stP_cells, bit_one, bit_zero, bit_one', bit_zero', wBin_shr32, wBin_and1, wBin_rem2, wBin_andNot32, wBin_or32, wBin_and32, wBin_shl32, u32_eq_zero, u32_ne_zero, List.length_cons, List.length_nil, Nat.le_refl, Nat.reduceAdd, Nat.reduceMul, Nat.reduceLeDiff, Int.toNat_zero, Int.toNat_one]
    by_cases hw : w < n
    case neg =>
      have hw' : ¬ (w : Int) < (n : Int) := by omega
      have hll : l3 = nearL (stepN N v rest) n := by
        apply List.ext_getElem?
        intro x
        by_cases hx : x < n
        · rw [hval x hx, nearL_get _ hx, if_pos (by omega)]
        · rw [List.getElem?_eq_none (by omega), List.getElem?_eq_none (by rw [nearL_len]; omega)]
      subst hll
      simp (disch := first | omega | assumption | exact shr_lt (by assumption) | exact ndiff32 (by assumption) | exact below_lt (by omega) | fail) only [List.getD_cons_zero, List.getD_cons_succ, wBin_lss, wBin_leq, wBin_gtr, wBin_geq, wBin_eql, wBin_neq, wIf_bool, wGuard_true, wGuard_false, wPick_true, wPick_false, wUn_not, wFld_eq, wExt_eq, wPart_one, wPart_agg, wLen_slice, wLen_string, wNew_eq, wNm_eq, dBox_agg, dBox_int, dBox_slice, dBox_string, dBox_bool, dBox_map, dBox_ptr, oneCells, wLd_none, wLd_2, wLd_3, wLd_32, ldP_cells, ldP_rom, cellP_one, getH_same, getH_ne, forceV_eq, forceN_eq, hsK_eq, Option.elim_some, List.getElem?_cons_zero, List.getElem?_cons_succ, Yld.val, decide_true, decide_false, if_true, if_false, Bool.false_eq_true, Nat.zero_add, Nat.add_zero, and_true, true_and, or_false, Bool.not_true, Bool.not_false, and_self, wBin_add64, wBin_sub64, wIdx_slice, wIdx_array, wNilc_eq, Int.toNat_natCast, Nat.mul_one, Nat.zero_mul, wSt_agg, wSt_int, wSt_bool, wSt_string, wSt_slice, wSt_ptr, wSt_map, wSt_func, stP_cells, bit_one, bit_zero, bit_one', bit_zero', wBin_shr32, wBin_and1, wBin_rem2, wBin_andNot32, wBin_or32, wBin_and32, wBin_shl32, u32_eq_zero, u32_ne_zero, List.length_cons, List.length_nil, Nat.le_refl, Nat.reduceAdd, Nat.reduceMul, Nat.reduceLeDiff, Int.toNat_zero, Int.toNat_one, hw']
      refine hih3 (m3 - 1) _ _ _ (by omega) ⟨i + 1, stepN N v rest, by omega, ?_, step_ok hN v rest, ?_, hg5, hE5, hnx5⟩
      · have e := drop_get hv
        rw [hdr] at e
        injection e with _ e
        rw [← e]; simp
      · have e := drop_get hv
        rw [hdr] at e
        injection e with _ e
        rw [hacc, ← e]
    have hw' : (w : Int) < (n : Int) := by omega
    have hcur : l3[w]? = some (maskOf (N w) n) := by rw [hval w hw, if_neg (by omega)]
    have gc := u32s_get hcur
    have hwl : w < l3.length := by omega
    have k5 := maskOf32 (n := n) (by omega) (N w)
    have hpw : 2 ^ w < 4294967296 := pow32 (by omega)
    simp (disch := first | omega | assumption | exact shr_lt (by assumption) | exact ndiff32 (by assumption) | exact below_lt (by omega) | fail) only [List.getD_cons_zero, List.getD_cons_succ, wBin_lss, wBin_leq, wBin_gtr, wBin_geq, wBin_eql, wBin_neq, wIf_bool, wGuard_true, wGuard_false, wPick_true, wPick_false, wUn_not, wFld_eq, wExt_eq, wPart_one, wPart_agg, wLen_slice, wLen_string, wNew_eq, wNm_eq, dBox_agg, dBox_int, dBox_slice, dBox_string, dBox_bool, dBox_map, dBox_ptr, oneCells, wLd_none, wLd_2, wLd_3, wLd_32, ldP_cells, ldP_rom, cellP_one, getH_same, getH_ne, forceV_eq, forceN_eq, hsK_eq, Option.elim_some, List.getElem?_cons_zero, List.getElem?_cons_succ, Yld.val, decide_true, decide_false, if_true, if_false, Bool.false_eq_true, Nat.zero_add, Nat.add_zero, and_true, true_and, or_false, Bool.not_true, Bool.not_false, and_self, wBin_add64, wBin_sub64, wIdx_slice, wIdx_array, wNilc_eq, Int.toNat_natCast, Nat.mul_one, Nat.zero_mul, wSt_agg, wSt_int, wSt_bool, wSt_string, wSt_slice, wSt_ptr, wSt_map, wSt_func, stP_cells, bit_one, bit_zero, bit_one', bit_zero', wBin_shr32, wBin_and1, wBin_rem2, wBin_andNot32, wBin_or32, wBin_and32, wBin_shl32, u32_eq_zero, u32_ne_zero, List.length_cons, List.length_nil, Nat.le_refl, Nat.reduceAdd, Nat.reduceMul, Nat.reduceLeDiff, Int.toNat_zero, Int.toNat_one, hw', wJoin_eq]
    refine wCall_rule (has36 k4 (by omega) _ _) ?_
    rintro _ _ _ ⟨rfl, rfl, rfl⟩
    have hkb : (maskOf (keyB N v rest) n).testBit w = keyB N v rest w := by rw [maskOf_bit]; simp [hw]
    rw [hkb]
    cases hk : keyB N v rest w with
    | false =>
      simp (disch := first | omega | assumption | exact shr_lt (by assumption) | exact ndiff32 (by assumption) | exact below_lt (by omega) | fail) only [List.getD_cons_zero, List.getD_cons_succ, wBin_lss, wBin_leq, wBin_gtr, wBin_geq, wBin_eql, wBin_neq, wIf_bool, wGuard_true, wGuard_false, wPick_true, wPick_false, wUn_not, wFld_eq, wExt_eq, wPart_one, wPart_agg, wLen_slice, wLen_string, wNew_eq, wNm_eq, dBox_agg, dBox_int, dBox_slice, dBox_string, dBox_bool, dBox_map, dBox_ptr, oneCells, wLd_none, wLd_2, wLd_3, wLd_32, ldP_cells, ldP_rom, cellP_one, getH_same, getH_ne, forceV_eq, forceN_eq, hsK_eq, Option.elim_some, List.getElem?_cons_zero, List.getElem?_cons_succ, Yld.val, decide_true, decide_false, if_true, if_false, Bool.false_eq_true, Nat.zero_add, Nat.add_zero, and_true, true_and, or_false, Bool.not_true, Bool.not_false, and_self, wBin_add64, wBin_sub64, wIdx_slice, wIdx_array, wNilc_eq, Int.toNat_natCast, Nat.mul_one, Nat.zero_mul, wSt_agg, wSt_int, wSt_bool, wSt_string, wSt_slice, wSt_ptr, wSt_map, wSt_func, stP_cells, bit_one, bit_zero, bit_one', bit_zero', wBin_shr32, wBin_and1, wBin_rem2, wBin_andNot32, wBin_or32, wBin_and32, wBin_shl32, u32_eq_zero, u32_ne_zero, List.length_cons, List.length_nil, Nat.le_refl, Nat.reduceAdd, Nat.reduceMul, Nat.reduceLeDiff, Int.toNat_zero, Int.toNat_one]
      refine hih5 (m5 - 1) _ _ _ (by omega) ⟨w + 1, l3, by omega, by simp, hl3, fun x hx => ?_, hg5, hE5, hnx5⟩
      rw [hval x hx]
      by_cases hxw : x = w
      · subst hxw; rw [if_neg (by omega), if_pos (by omega), near_skip hk]
      · by_cases h1 : x < w
        · rw [if_pos h1, if_pos (by omega)]
        · rw [if_neg h1, if_neg (by omega)]
    | true =>
      have hor := or32 k5 k4
      simp (disch := first | omega | assumption | exact shr_lt (by assumption) | exact ndiff32 (by assumption) | exact below_lt (by omega) | fail) only [List.getD_cons_zero, List.getD_cons_succ, wBin_lss, wBin_leq, wBin_gtr, wBin_geq, wBin_eql, wBin_neq, wIf_bool, wGuard_true, wGuard_false, wPick_true, wPick_false, wUn_not, wFld_eq, wExt_eq, wPart_one, wPart_agg, wLen_slice, wLen_string, wNew_eq, wNm_eq, dBox_agg, dBox_int, dBox_slice, dBox_string, dBox_bool, dBox_map, dBox_ptr, oneCells, wLd_none, wLd_2, wLd_3, wLd_32, ldP_cells, ldP_rom, cellP_one, getH_same, getH_ne, forceV_eq, forceN_eq, hsK_eq, Option.elim_some, List.getElem?_cons_zero, List.getElem?_cons_succ, Yld.val, decide_true, decide_false, if_true, if_false, Bool.false_eq_true, Nat.zero_add, Nat.add_zero, and_true, true_and, or_false, Bool.not_true, Bool.not_false, and_self, wBin_add64, wBin_sub64, wIdx_slice, wIdx_array, wNilc_eq, Int.toNat_natCast, Nat.mul_one, Nat.zero_mul, wSt_agg, wSt_int, wSt_bool, wSt_string, wSt_slice, wSt_ptr, wSt_map, wSt_func, stP_cells, bit_one, bit_zero, bit_one', bit_zero', wBin_shr32, wBin_and1, wBin_rem2, wBin_andNot32, wBin_or32, wBin_and32, wBin_shl32, u32_eq_zero, u32_ne_zero, List.length_cons, List.length_nil, Nat.le_refl, Nat.reduceAdd, Nat.reduceMul, Nat.reduceLeDiff, Int.toNat_zero, Int.toNat_one, hg5, gc, wConv_u64, hw', near_step hN hk, putL_u32s hwl, hlen3]
      refine ⟨by omega, hih5 (m5 - 1) _ _ _ (by omega) ⟨w + 1, l3.set w (maskOf (stepN N v rest w) n), by omega, by simp, by rw [List.length_set]; exact hl3, fun x hx => ?_, by rw [getH_same], hE5.hs (by omega), hnx5⟩⟩
      rw [List.getElem?_set]
      by_cases hxw : w = x
      · subst hxw; rw [if_pos rfl, if_pos (by omega), if_pos (by omega)]
      · rw [if_neg hxw, hval x hx]
        by_cases h1 : x < w
        · rw [if_pos h1, if_pos (by omega)]
        · rw [if_neg h1, if_neg (by omega)]
end Go.Proofs.YtdecggbglnbhlaaGreatDoor
