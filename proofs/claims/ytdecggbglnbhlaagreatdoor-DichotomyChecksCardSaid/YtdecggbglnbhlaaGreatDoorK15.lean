/-
  Contracts: below, the Check of a graph (texts of chapter 30, by name).
-/
import Derived.Test.YtdecggbglnbhlaaGreatDoorK13
import Derived.Test.YtdecggbglnbhlaaGreatDoorK2
import Derived.Test.YtdecggbglnbhlaaGreatDoorK6
import Derived.Test.YtdecggbglnbhlaaGreatDoorK14
set_option linter.unusedSimpArgs false
set_option linter.unusedVariables false
set_option linter.unusedSectionVars false
namespace Go.Proofs.YtdecggbglnbhlaaGreatDoor
open Go.Clo
/-- A pure answer. -/
def Pure (v : Value) (H : Heap) (nx : Nat) : EP := fun v' H' nx' => v' = v ∧ H = H' ∧ nx = nx'
theorem below_wrap {n : Nat} (h : n ≤ 32) : IntKind.u32.wrap (IntKind.u64.wrap (IntKind.u64.wrap (1 * 2 ^ min n 64) - 1)) = ((2 ^ n - 1 : Nat) : Int) := by
  have h1 := pow_le32 h
  have h2 := pow_pos2 n
  have e : (1 * (2 : Int) ^ min n 64) = ((2 ^ n : Nat) : Int) := by
    have : min n 64 = n := by omega
    simp [this]
  rw [e]
  generalize 2 ^ n = m at *
  simp only [IntKind.wrap, IntKind.signed, IntKind.bits]
  simp
  omega
theorem below_any {n : Nat} (hn : n ≤ 32) (k : VP) : (wBin .shl (.int .u64 1) (.int .i64 (n : Int)) fun t4 => wBin .sub t4 (.int .u64 1) fun t5 => wConv .u32 t5 k) = k (.int .u32 ((2 ^ n - 1 : Nat) : Int)) := by
  have h0 : ¬ (n : Int) < 0 := by omega
  rw [wBin_eq]
  simp only [binV, isShift, shiftV, cond_true, h0, if_false, Option.elim_some, wBin_sub, wConv_eq]
  rw [← below_wrap hn]; rfl
theorem below49 {n : Nat} (hn : n ≤ 32) (H : Heap) (nx : Nat) : Ans Tryz.prog 70 [.int .i64 (n : Int)] H nx (Pure (.int .u32 ((2 ^ n - 1 : Nat) : Int)) H nx) := by
  refine spec70 ?_
  unfold F70
  simp only [below_any hn, forceV_eq]
  exact ⟨rfl, rfl, rfl⟩
theorem below52 {n : Nat} (hn : n ≤ 32) (H : Heap) (nx : Nat) : Ans Tryz.prog 33 [.int .i64 (n : Int)] H nx (Pure (.int .u32 ((2 ^ n - 1 : Nat) : Int)) H nx) := by
  refine spec33 ?_
  unfold F33
  simp only [below_any hn, forceV_eq]
  exact ⟨rfl, rfl, rfl⟩
/-- A graph, as a value. -/
abbrev gv (N : Int) (A : Option Addr) (len cap : Nat) : Value := .agg ⟨[.int .i64 N, .slice A len cap]⟩
/-- The error of a graph. -/
def gcode (N : Int) (es : List Nat) : Int := if N < 0 ∨ 32 < N then 3 else if 64 < es.length then 12 else if ∃ e ∈ es, 2 ^ N.toNat ≤ e then 1 else 0
theorem gcode_range {N : Int} {es : List Nat} (h : N < 0 ∨ 32 < N) : gcode N es = 3 := by simp [gcode, h]
theorem gcode_many {N : Int} {es : List Nat} (h1 : 0 ≤ N) (h2 : N ≤ 32) (h : 64 < es.length) : gcode N es = 12 := by
  have : ¬ (N < 0 ∨ 32 < N) := by omega
  simp [gcode, h, this]
theorem gcode_arg {n : Nat} {es : List Nat} (h1 : n ≤ 32) (h : es.length ≤ 64) {i e : Nat} (he : es[i]? = some e) (hb : 2 ^ n ≤ e) : gcode n es = 1 := by
  have a1 : ¬ ((n : Int) < 0 ∨ 32 < (n : Int)) := by omega
  have a2 : ¬ 64 < es.length := by omega
  simp [gcode, a1, a2]
  exact ⟨e, List.mem_of_getElem? he, hb⟩
theorem gcode_ok {n : Nat} {es : List Nat} (h1 : n ≤ 32) (h : es.length ≤ 64) (hb : ∀ (i e : Nat), es[i]? = some e → e < 2 ^ n) : gcode n es = 0 := by
  have a1 : ¬ ((n : Int) < 0 ∨ 32 < (n : Int)) := by omega
  have a2 : ¬ 64 < es.length := by omega
  simp [gcode, a1, a2]
  intro e he
  obtain ⟨i, hi, rfl⟩ := List.getElem_of_mem he
  exact hb i _ (List.getElem?_eq_getElem hi)
theorem ndiff_below {e n : Nat} (he : e < 4294967296) : decide (ndiff e (2 ^ n - 1) ≠ 0) = decide (2 ^ n ≤ e) := by
  congr 1
  apply propext
  constructor
  · intro h
    rcases Nat.lt_or_ge e (2 ^ n) with g | g
    · exfalso; apply h
      apply Nat.eq_of_testBit_eq
      intro i
      rw [ndiff_bit, Nat.testBit_two_pow_sub_one]
      by_cases hi : i < n
      · simp [hi]
      · rw [Nat.testBit_lt_two_pow (Nat.lt_of_lt_of_le g (Nat.pow_le_pow_right (n := 2) (by omega) (show n ≤ i by omega)))]; simp
    · exact g
  · intro h h0
    obtain ⟨i, hi, hb⟩ := Nat.exists_ge_and_testBit_of_ge_two_pow h
    have := ndiff_bit e (2 ^ n - 1) i
    rw [h0, hb, Nat.testBit_two_pow_sub_one] at this
    have hni : ¬ i < n := by omega
    simp [hni] at this
/-- What a Check of a graph answers. -/
def GSpec (f : FuncId) : Prop := ∀ (N : Int) (A : Option Addr) (es : List Nat) (cap : Nat) (H : Heap) (nx : Nat), Sl H nx A (u32s es) → Small es →
  Ans Tryz.prog f [gv N A es.length cap] H nx fun v H' nx' => v = .int .i64 (gcode N es) ∧ Ext H nx H' nx'

theorem check37 : GSpec 15 := by
  intro N A es cap H nx hS hsm
  refine spec15 ?_
  unfold F15
  have hE : Ext H nx (hs H nx (some (.cells [.int .i64 N, .slice A es.length cap] 0))) (nx + 1) := (Ext.refl H nx).new _ (Nat.le_refl _) (by omega)
  simp (disch := first | omega | assumption | exact shr_lt (by assumption) | exact ndiff32 (by assumption) | exact below_lt (by omega) | fail) only [List.getD_cons_zero, List.getD_cons_succ, wBin_lss, wBin_leq, wBin_gtr, wBin_geq, wBin_eql, wBin_neq, wIf_bool, wGuard_true, wGuard_false, wPick_true, wPick_false, wUn_not, wFld_eq, wExt_eq, wPart_one, wPart_agg, wLen_slice, wLen_string, wNew_eq, wNm_eq, dBox_agg, dBox_int, dBox_slice, dBox_string, dBox_bool, dBox_map, dBox_ptr, oneCells, wLd_none, wLd_2, wLd_3, wLd_32, ldP_cells, ldP_rom, cellP_one, getH_same, getH_ne, forceV_eq, forceN_eq, hsK_eq, Option.elim_some, List.getElem?_cons_zero, List.getElem?_cons_succ, Yld.val, decide_true, decide_false, if_true, if_false, Bool.false_eq_true, Nat.zero_add, Nat.add_zero, and_true, true_and, or_false, Bool.not_true, Bool.not_false, and_self, wBin_add64, wBin_sub64, wIdx_slice, wIdx_array, wNilc_eq, Int.toNat_natCast, Nat.mul_one, Nat.zero_mul, wSt_agg, wSt_int, wSt_bool, wSt_string, wSt_slice, wSt_ptr, wSt_map, wSt_func, stP_cells, bit_one, bit_zero, bit_one', bit_zero', wBin_shr32, wBin_and1, wBin_rem2, wBin_andNot32, wBin_or32, wBin_and32, wBin_shl32, u32_eq_zero, u32_ne_zero, List.length_cons, List.length_nil, Nat.le_refl, Nat.reduceAdd, Nat.reduceMul, Nat.reduceLeDiff, Int.toNat_zero, Int.toNat_one]
  by_cases h1 : N < 0
  · simp (disch := first | omega | assumption | exact shr_lt (by assumption) | exact ndiff32 (by assumption) | exact below_lt (by omega) | fail) only [List.getD_cons_zero, List.getD_cons_succ, wBin_lss, wBin_leq, wBin_gtr, wBin_geq, wBin_eql, wBin_neq, wIf_bool, wGuard_true, wGuard_false, wPick_true, wPick_false, wUn_not, wFld_eq, wExt_eq, wPart_one, wPart_agg, wLen_slice, wLen_string, wNew_eq, wNm_eq, dBox_agg, dBox_int, dBox_slice, dBox_string, dBox_bool, dBox_map, dBox_ptr, oneCells, wLd_none, wLd_2, wLd_3, wLd_32, ldP_cells, ldP_rom, cellP_one, getH_same, getH_ne, forceV_eq, forceN_eq, hsK_eq, Option.elim_some, List.getElem?_cons_zero, List.getElem?_cons_succ, Yld.val, decide_true, decide_false, if_true, if_false, Bool.false_eq_true, Nat.zero_add, Nat.add_zero, and_true, true_and, or_false, Bool.not_true, Bool.not_false, and_self, wBin_add64, wBin_sub64, wIdx_slice, wIdx_array, wNilc_eq, Int.toNat_natCast, Nat.mul_one, Nat.zero_mul, wSt_agg, wSt_int, wSt_bool, wSt_string, wSt_slice, wSt_ptr, wSt_map, wSt_func, stP_cells, bit_one, bit_zero, bit_one', bit_zero', wBin_shr32, wBin_and1, wBin_rem2, wBin_andNot32, wBin_or32, wBin_and32, wBin_shl32, u32_eq_zero, u32_ne_zero, List.length_cons, List.length_nil, Nat.le_refl, Nat.reduceAdd, Nat.reduceMul, Nat.reduceLeDiff, Int.toNat_zero, Int.toNat_one, wJoin_eq, h1]
    exact ⟨by rw [gcode_range (.inl h1)], hE⟩
  by_cases h2 : 32 < N
  · simp (disch := first | omega | assumption | exact shr_lt (by assumption) | exact ndiff32 (by assumption) | exact below_lt (by omega) | fail) only [List.getD_cons_zero, List.getD_cons_succ, wBin_lss, wBin_leq, wBin_gtr, wBin_geq, wBin_eql, wBin_neq, wIf_bool, wGuard_true, wGuard_false, wPick_true, wPick_false, wUn_not, wFld_eq, wExt_eq, wPart_one, wPart_agg, wLen_slice, wLen_string, wNew_eq, wNm_eq, dBox_agg, dBox_int, dBox_slice, dBox_string, dBox_bool, dBox_map, dBox_ptr, oneCells, wLd_none, wLd_2, wLd_3, wLd_32, ldP_cells, ldP_rom, cellP_one, getH_same, getH_ne, forceV_eq, forceN_eq, hsK_eq, Option.elim_some, List.getElem?_cons_zero, List.getElem?_cons_succ, Yld.val, decide_true, decide_false, if_true, if_false, Bool.false_eq_true, Nat.zero_add, Nat.add_zero, and_true, true_and, or_false, Bool.not_true, Bool.not_false, and_self, wBin_add64, wBin_sub64, wIdx_slice, wIdx_array, wNilc_eq, Int.toNat_natCast, Nat.mul_one, Nat.zero_mul, wSt_agg, wSt_int, wSt_bool, wSt_string, wSt_slice, wSt_ptr, wSt_map, wSt_func, stP_cells, bit_one, bit_zero, bit_one', bit_zero', wBin_shr32, wBin_and1, wBin_rem2, wBin_andNot32, wBin_or32, wBin_and32, wBin_shl32, u32_eq_zero, u32_ne_zero, List.length_cons, List.length_nil, Nat.le_refl, Nat.reduceAdd, Nat.reduceMul, Nat.reduceLeDiff, Int.toNat_zero, Int.toNat_one, wJoin_eq, h1, h2]
    exact ⟨by rw [gcode_range (.inr h2)], hE⟩
  obtain ⟨n, rfl⟩ := Int.eq_ofNat_of_zero_le (show 0 ≤ N by omega)
  simp (disch := first | omega | assumption | exact shr_lt (by assumption) | exact ndiff32 (by assumption) | exact below_lt (by omega) | fail) only [List.getD_cons_zero, List.getD_cons_succ, wBin_lss, wBin_leq, wBin_gtr, wBin_geq, wBin_eql, wBin_neq, wIf_bool, wGuard_true, wGuard_false, wPick_true, wPick_false, wUn_not, wFld_eq, wExt_eq, wPart_one, wPart_agg, wLen_slice, wLen_string, wNew_eq, wNm_eq, dBox_agg, dBox_int, dBox_slice, dBox_string, dBox_bool, dBox_map, dBox_ptr, oneCells, wLd_none, wLd_2, wLd_3, wLd_32, ldP_cells, ldP_rom, cellP_one, getH_same, getH_ne, forceV_eq, forceN_eq, hsK_eq, Option.elim_some, List.getElem?_cons_zero, List.getElem?_cons_succ, Yld.val, decide_true, decide_false, if_true, if_false, Bool.false_eq_true, Nat.zero_add, Nat.add_zero, and_true, true_and, or_false, Bool.not_true, Bool.not_false, and_self, wBin_add64, wBin_sub64, wIdx_slice, wIdx_array, wNilc_eq, Int.toNat_natCast, Nat.mul_one, Nat.zero_mul, wSt_agg, wSt_int, wSt_bool, wSt_string, wSt_slice, wSt_ptr, wSt_map, wSt_func, stP_cells, bit_one, bit_zero, bit_one', bit_zero', wBin_shr32, wBin_and1, wBin_rem2, wBin_andNot32, wBin_or32, wBin_and32, wBin_shl32, u32_eq_zero, u32_ne_zero, List.length_cons, List.length_nil, Nat.le_refl, Nat.reduceAdd, Nat.reduceMul, Nat.reduceLeDiff, Int.toNat_zero, Int.toNat_one, wJoin_eq, h1, h2]
  by_cases h3 : 64 < es.length
  · have h3' : (64 : Int) < (es.length : Int) := by omega
    simp (disch := first | omega | assumption | exact shr_lt (by assumption) | exact ndiff32 (by assumption) | exact below_lt (by omega) | fail) only [List.getD_cons_zero, List.getD_cons_succ, wBin_lss, wBin_leq, wBin_gtr, wBin_geq, wBin_eql, wBin_neq, wIf_bool, wGuard_true, wGuard_false, wPick_true, wPick_false, wUn_not, wFld_eq, wExt_eq, wPart_one, wPart_agg, wLen_slice, wLen_string, wNew_eq, wNm_eq, dBox_agg, dBox_int, dBox_slice, dBox_string, dBox_bool, dBox_map, dBox_ptr, oneCells, wLd_none, wLd_2, wLd_3, wLd_32, ldP_cells, ldP_rom, cellP_one, getH_same, getH_ne, forceV_eq, forceN_eq, hsK_eq, Option.elim_some, List.getElem?_cons_zero, List.getElem?_cons_succ, Yld.val, decide_true, decide_false, if_true, if_false, Bool.false_eq_true, Nat.zero_add, Nat.add_zero, and_true, true_and, or_false, Bool.not_true, Bool.not_false, and_self, wBin_add64, wBin_sub64, wIdx_slice, wIdx_array, wNilc_eq, Int.toNat_natCast, Nat.mul_one, Nat.zero_mul, wSt_agg, wSt_int, wSt_bool, wSt_string, wSt_slice, wSt_ptr, wSt_map, wSt_func, stP_cells, bit_one, bit_zero, bit_one', bit_zero', wBin_shr32, wBin_and1, wBin_rem2, wBin_andNot32, wBin_or32, wBin_and32, wBin_shl32, u32_eq_zero, u32_ne_zero, List.length_cons, List.length_nil, Nat.le_refl, Nat.reduceAdd, Nat.reduceMul, Nat.reduceLeDiff, Int.toNat_zero, Int.toNat_one, h3']
    exact ⟨by rw [gcode_many (by omega) (by omega) h3], hE⟩
  have h3' : ¬ (64 : Int) < (es.length : Int) := by omega
  simp (disch := first | omega | assumption | exact shr_lt (by assumption) | exact ndiff32 (by assumption) | exact below_lt (by omega) | fail) only [List.getD_cons_zero, List.getD_cons_succ, wBin_lss, wBin_leq, wBin_gtr, wBin_geq, wBin_eql, wBin_neq, wIf_bool, wGuard_true, wGuard_false, wPick_true, wPick_false, wUn_not, wFld_eq, wExt_eq, wPart_one, wPart_agg, wLen_slice, wLen_string, wNew_eq, wNm_eq, dBox_agg, dBox_int, dBox_slice, dBox_string, dBox_bool, dBox_map, dBox_ptr, oneCells, wLd_none, wLd_2, wLd_3, wLd_32, ldP_cells, ldP_rom, cellP_one, getH_same, getH_ne, forceV_eq, forceN_eq, hsK_eq, Option.elim_some, List.getElem?_cons_zero, List.getElem?_cons_succ, Yld.val, decide_true, decide_false, if_true, if_false, Bool.false_eq_true, Nat.zero_add, Nat.add_zero, and_true, true_and, or_false, Bool.not_true, Bool.not_false, and_self, wBin_add64, wBin_sub64, wIdx_slice, wIdx_array, wNilc_eq, Int.toNat_natCast, Nat.mul_one, Nat.zero_mul, wSt_agg, wSt_int, wSt_bool, wSt_string, wSt_slice, wSt_ptr, wSt_map, wSt_func, stP_cells, bit_one, bit_zero, bit_one', bit_zero', wBin_shr32, wBin_and1, wBin_rem2, wBin_andNot32, wBin_or32, wBin_and32, wBin_shl32, u32_eq_zero, u32_ne_zero, List.length_cons, List.length_nil, Nat.le_refl, Nat.reduceAdd, Nat.reduceMul, Nat.reduceLeDiff, Int.toNat_zero, Int.toNat_one, h3']
  refine wLoop_rule (m := es.length) (fun m L H' nx' => ∃ i : Nat, m + i = es.length ∧ L = [.int .i64 (i : Int)] ∧ (∀ (j e : Nat), j < i → es[j]? = some e → e < 2 ^ n) ∧ _ = H' ∧ nx + 1 = nx') ?_ ⟨0, rfl, rfl, fun j e h => by omega, rfl, rfl⟩
  rintro m ih L _ _ ⟨i, hm, rfl, hst, rfl, rfl⟩ hih
  by_cases hi : i < es.length
  · obtain ⟨e, he⟩ : ∃ e, es[i]? = some e := ⟨_, List.getElem?_eq_getElem hi⟩
    obtain ⟨b, o, row, rfl, hb, hrow, hget⟩ := (hS.ext hE).open (i := i) (by rw [u32s_length]; exact hi)
    have hlt : ((i : Int) < (es.length : Int)) := by omega
    have he32 := hsm.get he
    simp (disch := first | omega | assumption | exact shr_lt (by assumption) | exact ndiff32 (by assumption) | exact below_lt (by omega) | fail) only [List.getD_cons_zero, List.getD_cons_succ, wBin_lss, wBin_leq, wBin_gtr, wBin_geq, wBin_eql, wBin_neq, wIf_bool, wGuard_true, wGuard_false, wPick_true, wPick_false, wUn_not, wFld_eq, wExt_eq, wPart_one, wPart_agg, wLen_slice, wLen_string, wNew_eq, wNm_eq, dBox_agg, dBox_int, dBox_slice, dBox_string, dBox_bool, dBox_map, dBox_ptr, oneCells, wLd_none, wLd_2, wLd_3, wLd_32, ldP_cells, ldP_rom, cellP_one, getH_same, getH_ne, forceV_eq, forceN_eq, hsK_eq, Option.elim_some, List.getElem?_cons_zero, List.getElem?_cons_succ, Yld.val, decide_true, decide_false, if_true, if_false, Bool.false_eq_true, Nat.zero_add, Nat.add_zero, and_true, true_and, or_false, Bool.not_true, Bool.not_false, and_self, wBin_add64, wBin_sub64, wIdx_slice, wIdx_array, wNilc_eq, Int.toNat_natCast, Nat.mul_one, Nat.zero_mul, wSt_agg, wSt_int, wSt_bool, wSt_string, wSt_slice, wSt_ptr, wSt_map, wSt_func, stP_cells, bit_one, bit_zero, bit_one', bit_zero', wBin_shr32, wBin_and1, wBin_rem2, wBin_andNot32, wBin_or32, wBin_and32, wBin_shl32, u32_eq_zero, u32_ne_zero, List.length_cons, List.length_nil, Nat.le_refl, Nat.reduceAdd, Nat.reduceMul, Nat.reduceLeDiff, Int.toNat_zero, Int.toNat_one, hlt, ldP_row hrow, hget _ _ (u32s_get he)]
    refine wCall_rule (below52 (by omega) _ _) ?_
    rintro _ _ _ ⟨rfl, rfl, rfl⟩
    rw [wBin_andNot32 _ he32 (below_lt (by omega))]
    simp (disch := first | omega | assumption | exact shr_lt (by assumption) | exact ndiff32 (by assumption) | exact below_lt (by omega) | fail) only [List.getD_cons_zero, List.getD_cons_succ, wBin_lss, wBin_leq, wBin_gtr, wBin_geq, wBin_eql, wBin_neq, wIf_bool, wGuard_true, wGuard_false, wPick_true, wPick_false, wUn_not, wFld_eq, wExt_eq, wPart_one, wPart_agg, wLen_slice, wLen_string, wNew_eq, wNm_eq, dBox_agg, dBox_int, dBox_slice, dBox_string, dBox_bool, dBox_map, dBox_ptr, oneCells, wLd_none, wLd_2, wLd_3, wLd_32, ldP_cells, ldP_rom, cellP_one, getH_same, getH_ne, forceV_eq, forceN_eq, hsK_eq, Option.elim_some, List.getElem?_cons_zero, List.getElem?_cons_succ, Yld.val, decide_true, decide_false, if_true, if_false, Bool.false_eq_true, Nat.zero_add, Nat.add_zero, and_true, true_and, or_false, Bool.not_true, Bool.not_false, and_self, wBin_add64, wBin_sub64, wIdx_slice, wIdx_array, wNilc_eq, Int.toNat_natCast, Nat.mul_one, Nat.zero_mul, wSt_agg, wSt_int, wSt_bool, wSt_string, wSt_slice, wSt_ptr, wSt_map, wSt_func, stP_cells, bit_one, bit_zero, bit_one', bit_zero', wBin_shr32, wBin_and1, wBin_rem2, wBin_andNot32, wBin_or32, wBin_and32, wBin_shl32, u32_eq_zero, u32_ne_zero, List.length_cons, List.length_nil, Nat.le_refl, Nat.reduceAdd, Nat.reduceMul, Nat.reduceLeDiff, Int.toNat_zero, Int.toNat_one, ndiff_below he32]
    by_cases hbig : 2 ^ n ≤ e
    · simp (disch := first | omega | assumption | exact shr_lt (by assumption) | exact ndiff32 (by assumption) | exact below_lt (by omega) | fail) only [List.getD_cons_zero, List.getD_cons_succ, wBin_lss, wBin_leq, wBin_gtr, wBin_geq, wBin_eql, wBin_neq, wIf_bool, wGuard_true, wGuard_false, wPick_true, wPick_false, wUn_not, wFld_eq, wExt_eq, wPart_one, wPart_agg, wLen_slice, wLen_string, wNew_eq, wNm_eq, dBox_agg, dBox_int, dBox_slice, dBox_string, dBox_bool, dBox_map, dBox_ptr, oneCells, wLd_none, wLd_2, wLd_3, wLd_32, ldP_cells, ldP_rom, cellP_one, getH_same, getH_ne, forceV_eq, forceN_eq, hsK_eq, Option.elim_some, List.getElem?_cons_zero, List.getElem?_cons_succ, Yld.val, decide_true, decide_false, if_true, if_false, Bool.false_eq_true, Nat.zero_add, Nat.add_zero, and_true, true_and, or_false, Bool.not_true, Bool.not_false, and_self, wBin_add64, wBin_sub64, wIdx_slice, wIdx_array, wNilc_eq, Int.toNat_natCast, Nat.mul_one, Nat.zero_mul, wSt_agg, wSt_int, wSt_bool, wSt_string, wSt_slice, wSt_ptr, wSt_map, wSt_func, stP_cells, bit_one, bit_zero, bit_one', bit_zero', wBin_shr32, wBin_and1, wBin_rem2, wBin_andNot32, wBin_or32, wBin_and32, wBin_shl32, u32_eq_zero, u32_ne_zero, List.length_cons, List.length_nil, Nat.le_refl, Nat.reduceAdd, Nat.reduceMul, Nat.reduceLeDiff, Int.toNat_zero, Int.toNat_one, hbig]
      exact ⟨by rw [gcode_arg (by omega) (by omega) he hbig], hE⟩
    · simp (disch := first | omega | assumption | exact shr_lt (by assumption) | exact ndiff32 (by assumption) | exact below_lt (by omega) | fail) only [List.getD_cons_zero, List.getD_cons_succ, wBin_lss, wBin_leq, wBin_gtr, wBin_geq, wBin_eql, wBin_neq, wIf_bool, wGuard_true, wGuard_false, wPick_true, wPick_false, wUn_not, wFld_eq, wExt_eq, wPart_one, wPart_agg, wLen_slice, wLen_string, wNew_eq, wNm_eq, dBox_agg, dBox_int, dBox_slice, dBox_string, dBox_bool, dBox_map, dBox_ptr, oneCells, wLd_none, wLd_2, wLd_3, wLd_32, ldP_cells, ldP_rom, cellP_one, getH_same, getH_ne, forceV_eq, forceN_eq, hsK_eq, Option.elim_some, List.getElem?_cons_zero, List.getElem?_cons_succ, Yld.val, decide_true, decide_false, if_true, if_false, Bool.false_eq_true, Nat.zero_add, Nat.add_zero, and_true, true_and, or_false, Bool.not_true, Bool.not_false, and_self, wBin_add64, wBin_sub64, wIdx_slice, wIdx_array, wNilc_eq, Int.toNat_natCast, Nat.mul_one, Nat.zero_mul, wSt_agg, wSt_int, wSt_bool, wSt_string, wSt_slice, wSt_ptr, wSt_map, wSt_func, stP_cells, bit_one, bit_zero, bit_one', bit_zero', wBin_shr32, wBin_and1, wBin_rem2, wBin_andNot32, wBin_or32, wBin_and32, wBin_shl32, u32_eq_zero, u32_ne_zero, List.length_cons, List.length_nil, Nat.le_refl, Nat.reduceAdd, Nat.reduceMul, Nat.reduceLeDiff, Int.toNat_zero, Int.toNat_one, hbig]
      refine hih (m - 1) _ _ _ (by omega) ⟨i + 1, by omega, by simp, fun j e' hj he' => ?_, rfl, rfl⟩
      by_cases hji : j = i
      · subst hji; rw [he] at he'; cases he'; omega
      · exact hst j e' (by omega) he'
  · have hlt : ¬ ((i : Int) < (es.length : Int)) := by omega
    simp (disch := first | omega | assumption | exact shr_lt (by assumption) | exact ndiff32 (by assumption) | exact below_lt (by omega) | fail) only [List.getD_cons_zero, List.getD_cons_succ, wBin_lss, wBin_leq, wBin_gtr, wBin_geq, wBin_eql, wBin_neq, wIf_bool, wGuard_true, wGuard_false, wPick_true, wPick_false, wUn_not, wFld_eq, wExt_eq, wPart_one, wPart_agg, wLen_slice, wLen_string, wNew_eq, wNm_eq, dBox_agg, dBox_int, dBox_slice, dBox_string, dBox_bool, dBox_map, dBox_ptr, oneCells, wLd_none, wLd_2, wLd_3, wLd_32, ldP_cells, ldP_rom, cellP_one, getH_same, getH_ne, forceV_eq, forceN_eq, hsK_eq, Option.elim_some, List.getElem?_cons_zero, List.getElem?_cons_succ, Yld.val, decide_true, decide_false, if_true, if_false, Bool.false_eq_true, Nat.zero_add, Nat.add_zero, and_true, true_and, or_false, Bool.not_true, Bool.not_false, and_self, wBin_add64, wBin_sub64, wIdx_slice, wIdx_array, wNilc_eq, Int.toNat_natCast, Nat.mul_one, Nat.zero_mul, wSt_agg, wSt_int, wSt_bool, wSt_string, wSt_slice, wSt_ptr, wSt_map, wSt_func, stP_cells, bit_one, bit_zero, bit_one', bit_zero', wBin_shr32, wBin_and1, wBin_rem2, wBin_andNot32, wBin_or32, wBin_and32, wBin_shl32, u32_eq_zero, u32_ne_zero, List.length_cons, List.length_nil, Nat.le_refl, Nat.reduceAdd, Nat.reduceMul, Nat.reduceLeDiff, Int.toNat_zero, Int.toNat_one, hlt]
    exact ⟨by rw [gcode_ok (by omega) (by omega) fun j e he => hst j e (by have : j < es.length := by { rcases Nat.lt_or_ge j es.length with g | g; exact g; rw [List.getElem?_eq_none g] at he; cases he }; omega) he], hE⟩
theorem lt_len {α : Type} {l : List α} {i : Nat} {a : α} (h : l[i]? = some a) : i < l.length := by
  rcases Nat.lt_or_ge i l.length with g | g
  · exact g
  · rw [List.getElem?_eq_none g] at h; cases h
theorem lt_of_bits {e n : Nat} (he : e < 4294967296) (h : ∀ v, n ≤ v → v < 32 → e.testBit v = false) : e < 2 ^ n := by
  rcases Nat.lt_or_ge e (2 ^ n) with g | g
  · exact g
  · obtain ⟨i, hi, hb⟩ := Nat.exists_ge_and_testBit_of_ge_two_pow g
    rw [h i hi (bit_high he hb)] at hb; cases hb
theorem ge_of_bit {e n v : Nat} (hv : n ≤ v) (h : e.testBit v = true) : 2 ^ n ≤ e := by
  rcases Nat.lt_or_ge e (2 ^ n) with g | g
  · rw [Nat.testBit_lt_two_pow (Nat.lt_of_lt_of_le g (Nat.pow_le_pow_right (n := 2) (by omega) hv))] at h; cases h
  · exact g
/-- The error of a graph or of a number of free variables. -/
def fcode (N free : Int) (es : List Nat) : Int := if gcode N es ≠ 0 then gcode N es else if free < 0 ∨ N < free then 3 else 0
theorem checkFree27 (N free : Int) (A : Option Addr) (es : List Nat) (cap : Nat) (H : Heap) (nx : Nat) (hS : Sl H nx A (u32s es)) (hsm : Small es) :
    Ans Tryz.prog 69 [gv N A es.length cap, .int .i64 free] H nx fun v H' nx' => v = .int .i64 (fcode N free es) ∧ Ext H nx H' nx' := by
  refine spec69 ?_
  unfold F69
  have hE : Ext H nx (hs H nx (some (.cells [.int .i64 N, .slice A es.length cap] 0))) (nx + 1) := (Ext.refl H nx).new _ (Nat.le_refl _) (by omega)
  simp (disch := first | omega | assumption | exact shr_lt (by assumption) | exact ndiff32 (by assumption) | exact below_lt (by omega) | fail) only [List.getD_cons_zero, List.getD_cons_succ, wBin_lss, wBin_leq, wBin_gtr, wBin_geq, wBin_eql, wBin_neq, wIf_bool, wGuard_true, wGuard_false, wPick_true, wPick_false, wUn_not, wFld_eq, wExt_eq, wPart_one, wPart_agg, wLen_slice, wLen_string, wNew_eq, wNm_eq, dBox_agg, dBox_int, dBox_slice, dBox_string, dBox_bool, dBox_map, dBox_ptr, oneCells, wLd_none, wLd_2, wLd_3, wLd_32, ldP_cells, ldP_rom, cellP_one, getH_same, getH_ne, forceV_eq, forceN_eq, hsK_eq, Option.elim_some, List.getElem?_cons_zero, List.getElem?_cons_succ, Yld.val, decide_true, decide_false, if_true, if_false, Bool.false_eq_true, Nat.zero_add, Nat.add_zero, and_true, true_and, or_false, Bool.not_true, Bool.not_false, and_self, wBin_add64, wBin_sub64, wIdx_slice, wIdx_array, wNilc_eq, Int.toNat_natCast, Nat.mul_one, Nat.zero_mul, wSt_agg, wSt_int, wSt_bool, wSt_string, wSt_slice, wSt_ptr, wSt_map, wSt_func, stP_cells, bit_one, bit_zero, bit_one', bit_zero', wBin_shr32, wBin_and1, wBin_rem2, wBin_andNot32, wBin_or32, wBin_and32, wBin_shl32, u32_eq_zero, u32_ne_zero, List.length_cons, List.length_nil, Nat.le_refl, Nat.reduceAdd, Nat.reduceMul, Nat.reduceLeDiff, Int.toNat_zero, Int.toNat_one, cellP_lit2]
  refine wCall_rule (check37 N A es cap _ _ (hS.ext hE) hsm) ?_
  rintro _ H2 nx2 ⟨rfl, hE2⟩
  have hg := hE2.get nx (by omega)
  rw [getH_same] at hg
  simp (disch := first | omega | assumption | exact shr_lt (by assumption) | exact ndiff32 (by assumption) | exact below_lt (by omega) | fail) only [List.getD_cons_zero, List.getD_cons_succ, wBin_lss, wBin_leq, wBin_gtr, wBin_geq, wBin_eql, wBin_neq, wIf_bool, wGuard_true, wGuard_false, wPick_true, wPick_false, wUn_not, wFld_eq, wExt_eq, wPart_one, wPart_agg, wLen_slice, wLen_string, wNew_eq, wNm_eq, dBox_agg, dBox_int, dBox_slice, dBox_string, dBox_bool, dBox_map, dBox_ptr, oneCells, wLd_none, wLd_2, wLd_3, wLd_32, ldP_cells, ldP_rom, cellP_one, getH_same, getH_ne, forceV_eq, forceN_eq, hsK_eq, Option.elim_some, List.getElem?_cons_zero, List.getElem?_cons_succ, Yld.val, decide_true, decide_false, if_true, if_false, Bool.false_eq_true, Nat.zero_add, Nat.add_zero, and_true, true_and, or_false, Bool.not_true, Bool.not_false, and_self, wBin_add64, wBin_sub64, wIdx_slice, wIdx_array, wNilc_eq, Int.toNat_natCast, Nat.mul_one, Nat.zero_mul, wSt_agg, wSt_int, wSt_bool, wSt_string, wSt_slice, wSt_ptr, wSt_map, wSt_func, stP_cells, bit_one, bit_zero, bit_one', bit_zero', wBin_shr32, wBin_and1, wBin_rem2, wBin_andNot32, wBin_or32, wBin_and32, wBin_shl32, u32_eq_zero, u32_ne_zero, List.length_cons, List.length_nil, Nat.le_refl, Nat.reduceAdd, Nat.reduceMul, Nat.reduceLeDiff, Int.toNat_zero, Int.toNat_one, hg, wJoin_eq]
  by_cases h0 : gcode N es = 0
  · by_cases h1 : free < 0
    · simp (disch := first | omega | assumption | exact shr_lt (by assumption) | exact ndiff32 (by assumption) | exact below_lt (by omega) | fail) only [List.getD_cons_zero, List.getD_cons_succ, wBin_lss, wBin_leq, wBin_gtr, wBin_geq, wBin_eql, wBin_neq, wIf_bool, wGuard_true, wGuard_false, wPick_true, wPick_false, wUn_not, wFld_eq, wExt_eq, wPart_one, wPart_agg, wLen_slice, wLen_string, wNew_eq, wNm_eq, dBox_agg, dBox_int, dBox_slice, dBox_string, dBox_bool, dBox_map, dBox_ptr, oneCells, wLd_none, wLd_2, wLd_3, wLd_32, ldP_cells, ldP_rom, cellP_one, getH_same, getH_ne, forceV_eq, forceN_eq, hsK_eq, Option.elim_some, List.getElem?_cons_zero, List.getElem?_cons_succ, Yld.val, decide_true, decide_false, if_true, if_false, Bool.false_eq_true, Nat.zero_add, Nat.add_zero, and_true, true_and, or_false, Bool.not_true, Bool.not_false, and_self, wBin_add64, wBin_sub64, wIdx_slice, wIdx_array, wNilc_eq, Int.toNat_natCast, Nat.mul_one, Nat.zero_mul, wSt_agg, wSt_int, wSt_bool, wSt_string, wSt_slice, wSt_ptr, wSt_map, wSt_func, stP_cells, bit_one, bit_zero, bit_one', bit_zero', wBin_shr32, wBin_and1, wBin_rem2, wBin_andNot32, wBin_or32, wBin_and32, wBin_shl32, u32_eq_zero, u32_ne_zero, List.length_cons, List.length_nil, Nat.le_refl, Nat.reduceAdd, Nat.reduceMul, Nat.reduceLeDiff, Int.toNat_zero, Int.toNat_one, h0, h1, ne_eq, not_true_eq_false]
      exact ⟨by simp [fcode, h0, h1], hE.trans hE2⟩
    · by_cases h2 : N < free
      · simp (disch := first | omega | assumption | exact shr_lt (by assumption) | exact ndiff32 (by assumption) | exact below_lt (by omega) | fail) only [List.getD_cons_zero, List.getD_cons_succ, wBin_lss, wBin_leq, wBin_gtr, wBin_geq, wBin_eql, wBin_neq, wIf_bool, wGuard_true, wGuard_false, wPick_true, wPick_false, wUn_not, wFld_eq, wExt_eq, wPart_one, wPart_agg, wLen_slice, wLen_string, wNew_eq, wNm_eq, dBox_agg, dBox_int, dBox_slice, dBox_string, dBox_bool, dBox_map, dBox_ptr, oneCells, wLd_none, wLd_2, wLd_3, wLd_32, ldP_cells, ldP_rom, cellP_one, getH_same, getH_ne, forceV_eq, forceN_eq, hsK_eq, Option.elim_some, List.getElem?_cons_zero, List.getElem?_cons_succ, Yld.val, decide_true, decide_false, if_true, if_false, Bool.false_eq_true, Nat.zero_add, Nat.add_zero, and_true, true_and, or_false, Bool.not_true, Bool.not_false, and_self, wBin_add64, wBin_sub64, wIdx_slice, wIdx_array, wNilc_eq, Int.toNat_natCast, Nat.mul_one, Nat.zero_mul, wSt_agg, wSt_int, wSt_bool, wSt_string, wSt_slice, wSt_ptr, wSt_map, wSt_func, stP_cells, bit_one, bit_zero, bit_one', bit_zero', wBin_shr32, wBin_and1, wBin_rem2, wBin_andNot32, wBin_or32, wBin_and32, wBin_shl32, u32_eq_zero, u32_ne_zero, List.length_cons, List.length_nil, Nat.le_refl, Nat.reduceAdd, Nat.reduceMul, Nat.reduceLeDiff, Int.toNat_zero, Int.toNat_one, h0, h1, h2, ne_eq, not_true_eq_false]
        exact ⟨by simp [fcode, h0, h2], hE.trans hE2⟩
      · simp (disch := first | omega | assumption | exact shr_lt (by assumption) | exact ndiff32 (by assumption) | exact below_lt (by omega) | fail) only [List.getD_cons_zero, List.getD_cons_succ, wBin_lss, wBin_leq, wBin_gtr, wBin_geq, wBin_eql, wBin_neq, wIf_bool, wGuard_true, wGuard_false, wPick_true, wPick_false, wUn_not, wFld_eq, wExt_eq, wPart_one, wPart_agg, wLen_slice, wLen_string, wNew_eq, wNm_eq, dBox_agg, dBox_int, dBox_slice, dBox_string, dBox_bool, dBox_map, dBox_ptr, oneCells, wLd_none, wLd_2, wLd_3, wLd_32, ldP_cells, ldP_rom, cellP_one, getH_same, getH_ne, forceV_eq, forceN_eq, hsK_eq, Option.elim_some, List.getElem?_cons_zero, List.getElem?_cons_succ, Yld.val, decide_true, decide_false, if_true, if_false, Bool.false_eq_true, Nat.zero_add, Nat.add_zero, and_true, true_and, or_false, Bool.not_true, Bool.not_false, and_self, wBin_add64, wBin_sub64, wIdx_slice, wIdx_array, wNilc_eq, Int.toNat_natCast, Nat.mul_one, Nat.zero_mul, wSt_agg, wSt_int, wSt_bool, wSt_string, wSt_slice, wSt_ptr, wSt_map, wSt_func, stP_cells, bit_one, bit_zero, bit_one', bit_zero', wBin_shr32, wBin_and1, wBin_rem2, wBin_andNot32, wBin_or32, wBin_and32, wBin_shl32, u32_eq_zero, u32_ne_zero, List.length_cons, List.length_nil, Nat.le_refl, Nat.reduceAdd, Nat.reduceMul, Nat.reduceLeDiff, Int.toNat_zero, Int.toNat_one, h0, h1, h2, ne_eq, not_true_eq_false]
        exact ⟨by simp [fcode, h0, h1, h2], hE.trans hE2⟩
  · simp (disch := first | omega | assumption | exact shr_lt (by assumption) | exact ndiff32 (by assumption) | exact below_lt (by omega) | fail) only [List.getD_cons_zero, List.getD_cons_succ, wBin_lss, wBin_leq, wBin_gtr, wBin_geq, wBin_eql, wBin_neq, wIf_bool, wGuard_true, wGuard_false, wPick_true, wPick_false, wUn_not, wFld_eq, wExt_eq, wPart_one, wPart_agg, wLen_slice, wLen_string, wNew_eq, wNm_eq, dBox_agg, dBox_int, dBox_slice, dBox_string, dBox_bool, dBox_map, dBox_ptr, oneCells, wLd_none, wLd_2, wLd_3, wLd_32, ldP_cells, ldP_rom, cellP_one, getH_same, getH_ne, forceV_eq, forceN_eq, hsK_eq, Option.elim_some, List.getElem?_cons_zero, List.getElem?_cons_succ, Yld.val, decide_true, decide_false, if_true, if_false, Bool.false_eq_true, Nat.zero_add, Nat.add_zero, and_true, true_and, or_false, Bool.not_true, Bool.not_false, and_self, wBin_add64, wBin_sub64, wIdx_slice, wIdx_array, wNilc_eq, Int.toNat_natCast, Nat.mul_one, Nat.zero_mul, wSt_agg, wSt_int, wSt_bool, wSt_string, wSt_slice, wSt_ptr, wSt_map, wSt_func, stP_cells, bit_one, bit_zero, bit_one', bit_zero', wBin_shr32, wBin_and1, wBin_rem2, wBin_andNot32, wBin_or32, wBin_and32, wBin_shl32, u32_eq_zero, u32_ne_zero, List.length_cons, List.length_nil, Nat.le_refl, Nat.reduceAdd, Nat.reduceMul, Nat.reduceLeDiff, Int.toNat_zero, Int.toNat_one, h0, ne_eq, not_false_eq_true]
    exact ⟨by simp [fcode, h0], hE.trans hE2⟩
end Go.Proofs.YtdecggbglnbhlaaGreatDoor
