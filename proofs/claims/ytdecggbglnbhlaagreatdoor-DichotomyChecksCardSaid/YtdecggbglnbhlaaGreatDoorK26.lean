/-
  Contracts: hypergraph.CheckObstruction, connex.CheckPath, trio.Check: what they answer depends on the edges and the list alone.
-/
import Derived.Test.YtdecggbglnbhlaaGreatDoorK19
import Derived.Test.YtdecggbglnbhlaaGreatDoorK25
set_option linter.unusedSimpArgs false
set_option linter.unusedVariables false
set_option linter.unusedSectionVars false
namespace Go.Proofs.YtdecggbglnbhlaaGreatDoor
open Go.Clo

def lOK (l : List Int) (n : Nat) : Prop := (∀ x ∈ l, 0 ≤ x ∧ x < (n : Int)) ∧ l.Nodup
def setL (l : List Int) (n : Nat) : Nat := maskOf (fun w => decide ((w : Int) ∈ l)) n
theorem setL_lt (l : List Int) {n : Nat} (hn : n ≤ 32) : setL l n < 4294967296 := Nat.lt_of_lt_of_le (maskOf_lt _ n) (Nat.le_trans (Nat.pow_le_pow_right (by omega) hn) (by decide))
theorem setL_next {l : List Int} {i w n : Nat} (h : l[i]? = some (w : Int)) (hw : w < n) : setL (l.take i) n ||| 2 ^ w = setL (l.take (i + 1)) n := by
  apply Nat.eq_of_testBit_eq
  intro b
  unfold setL
  rw [Nat.testBit_or, maskOf_bit, maskOf_bit, Nat.testBit_two_pow, take_next h]
  by_cases hb : w = b
  · subst hb; simp [hw]
  · have h1 : ¬ (b : Int) = (w : Int) := by omega
    simp [hb, h1]

/-- The look at a list of vertices that two functions begin with. -/
theorem scan_rule {n g : Nat} (hn : n ≤ 32) {A : Option Addr} {cap : Nat} {l : List Int} (hl : l.length ≤ 1000) {ev : Value} {H : Heap} {nx : Nat} (hS : Sl H nx A (i64s l)) (hg : getH H g = some (.cells [.int .i64 (n : Int), ev] 0)) {k : EP} {rest : List Value → Heap → Nat → Prop}
    (hbad : ¬ lOK l n → k (.bool false) H nx) (hok : lOK l n → rest [.int .u32 ((setL l n : Nat) : Int), .int .i64 (l.length : Int)] H nx) :
    wLoop (fun tih_8 tL_9 H3 nx3 =>
      wBin .lss (tL_9.getD 1 undef) (.int .i64 (l.length : Int)) fun t24_10 =>
      wIf t24_10 (
        wIdx (.slice A l.length cap) (tL_9.getD 1 undef) none 1 fun t25_11 =>
        wLd t25_11 none H3 fun t26_12 =>
        wJoin (fun tj_13 =>
          wBin .lss t26_12 (.int .i64 0) fun t28_15 =>
          wGuard false t28_15 (
            wFld (.pointer (some ⟨g, 0, none⟩)) 0 fun t31_16 =>
            wLd t31_16 none H3 fun t32_17 =>
            wBin .geq t26_12 t32_17 fun t33_18 =>
            wGuard false t33_18 (
              wBin .shr (tL_9.getD 0 undef) t26_12 fun t38_19 =>
              wBin .and t38_19 (.int .u32 1) fun t39_20 =>
              wBin .eql t39_20 (.int .u32 1) fun t40_21 =>
              tj_13 [t40_21] H3 nx3) (
              tj_13 [(.bool true)] H3 nx3)) (
              tj_13 [(.bool true)] H3 nx3)) (fun tL_14 H4 nx4 =>
          wIf (tL_14.getD 0 undef) (
            forceV (.bool false) fun tv_22 => k tv_22 H4 nx4) (
            wBin .shl (.int .u32 1) t26_12 fun t44_23 =>
            wBin .or (tL_9.getD 0 undef) t44_23 fun t45_24 =>
            wBin .add (tL_9.getD 1 undef) (.int .i64 1) fun t46_25 =>
            tih_8 [t45_24, t46_25] H4 nx4))) (rest tL_9 H3 nx3)) [.int .u32 0, .int .i64 0] H nx := by
  refine wLoop_rule (m := l.length) (fun m L H' nx' => ∃ i : Nat, m + i = l.length ∧ L = [.int .u32 ((setL (l.take i) n : Nat) : Int), .int .i64 (i : Int)] ∧ (∀ x ∈ l.take i, 0 ≤ x ∧ x < (n : Int)) ∧ (l.take i).Nodup ∧ H = H' ∧ nx = nx') ?_
    ⟨0, rfl, by
      have : setL (l.take 0) n = 0 := by
        apply Nat.eq_of_testBit_eq
        intro b
        unfold setL
        rw [maskOf_bit]; simp
      rw [this]; rfl, by simp, by simp, rfl, rfl⟩
  rintro m ih L _ _ ⟨i, hm, rfl, hin, hnd, rfl, rfl⟩ hih
  simp (disch := first | omega | assumption | exact shr_lt (by assumption) | exact ndiff32 (by assumption) | exact below_lt (by omega) | fail) only [List.getD_cons_zero, List.getD_cons_succ, wBin_lss, wBin_leq, wBin_gtr, wBin_geq, wBin_eql, wBin_neq, wIf_bool, wGuard_true, wGuard_false, wPick_true, wPick_false, wUn_not, wFld_eq, wExt_eq, wPart_one, wPart_agg, wLen_slice, wLen_string, wNew_eq, wNm_eq, dBox_agg, dBox_int, dBox_slice, dBox_string, dBox_bool, dBox_map, dBox_ptr, oneCells, wLd_none, wLd_2, wLd_3, wLd_32, ldP_cells, ldP_rom, cellP_one, getH_same, getH_ne, forceV_eq, forceN_eq, hsK_eq, Option.elim_some, List.getElem?_cons_zero, List.getElem?_cons_succ, Yld.val, decide_true, decide_false, if_true, if_false, Bool.false_eq_true, Nat.zero_add, Nat.add_zero, and_true, true_and, or_false, Bool.not_true, Bool.not_false, and_self, wBin_add64, wBin_sub64, wIdx_slice, wIdx_array, wNilc_eq, Int.toNat_natCast, Nat.mul_one, Nat.zero_mul, wSt_agg, wSt_int, wSt_bool, wSt_string, wSt_slice, wSt_ptr, wSt_map, wSt_func, stP_cells, bit_one, bit_zero, bit_one', bit_zero', wBin_shr32, wBin_and1, wBin_rem2, wBin_andNot32, wBin_or32, wBin_and32, wBin_shl32, u32_eq_zero, u32_ne_zero, List.length_cons, List.length_nil, Nat.le_refl, Nat.reduceAdd, Nat.reduceMul, Nat.reduceLeDiff, Int.toNat_zero, Int.toNat_one]
  by_cases hi : i < l.length
  case neg =>
    have hi' : ¬ (i : Int) < (l.length : Int) := by omega
    have e : l.take i = l := List.take_of_length_le (by omega)
    rw [e] at hin hnd
    have e2 : i = l.length := by omega
    simp (disch := first | omega | assumption | exact shr_lt (by assumption) | exact ndiff32 (by assumption) | exact below_lt (by omega) | fail) only [List.getD_cons_zero, List.getD_cons_succ, wBin_lss, wBin_leq, wBin_gtr, wBin_geq, wBin_eql, wBin_neq, wIf_bool, wGuard_true, wGuard_false, wPick_true, wPick_false, wUn_not, wFld_eq, wExt_eq, wPart_one, wPart_agg, wLen_slice, wLen_string, wNew_eq, wNm_eq, dBox_agg, dBox_int, dBox_slice, dBox_string, dBox_bool, dBox_map, dBox_ptr, oneCells, wLd_none, wLd_2, wLd_3, wLd_32, ldP_cells, ldP_rom, cellP_one, getH_same, getH_ne, forceV_eq, forceN_eq, hsK_eq, Option.elim_some, List.getElem?_cons_zero, List.getElem?_cons_succ, Yld.val, decide_true, decide_false, if_true, if_false, Bool.false_eq_true, Nat.zero_add, Nat.add_zero, and_true, true_and, or_false, Bool.not_true, Bool.not_false, and_self, wBin_add64, wBin_sub64, wIdx_slice, wIdx_array, wNilc_eq, Int.toNat_natCast, Nat.mul_one, Nat.zero_mul, wSt_agg, wSt_int, wSt_bool, wSt_string, wSt_slice, wSt_ptr, wSt_map, wSt_func, stP_cells, bit_one, bit_zero, bit_one', bit_zero', wBin_shr32, wBin_and1, wBin_rem2, wBin_andNot32, wBin_or32, wBin_and32, wBin_shl32, u32_eq_zero, u32_ne_zero, List.length_cons, List.length_nil, Nat.le_refl, Nat.reduceAdd, Nat.reduceMul, Nat.reduceLeDiff, Int.toNat_zero, Int.toNat_one, hi', e]
    rw [e2]
    exact hok ⟨hin, hnd⟩
  have hi' : (i : Int) < (l.length : Int) := by omega
  obtain ⟨x, hx⟩ : ∃ x, l[i]? = some x := ⟨_, List.getElem?_eq_getElem hi⟩
  obtain ⟨B, o, row, rfl, hBn, hrow, hget⟩ := hS.open (i := i) (by rw [i64s_length]; omega)
  have g0 := hget _ _ (i64s_get hx)
  have hxm := List.mem_of_getElem? hx
  simp (disch := first | omega | assumption | exact shr_lt (by assumption) | exact ndiff32 (by assumption) | exact below_lt (by omega) | fail) only [List.getD_cons_zero, List.getD_cons_succ, wBin_lss, wBin_leq, wBin_gtr, wBin_geq, wBin_eql, wBin_neq, wIf_bool, wGuard_true, wGuard_false, wPick_true, wPick_false, wUn_not, wFld_eq, wExt_eq, wPart_one, wPart_agg, wLen_slice, wLen_string, wNew_eq, wNm_eq, dBox_agg, dBox_int, dBox_slice, dBox_string, dBox_bool, dBox_map, dBox_ptr, oneCells, wLd_none, wLd_2, wLd_3, wLd_32, ldP_cells, ldP_rom, cellP_one, getH_same, getH_ne, forceV_eq, forceN_eq, hsK_eq, Option.elim_some, List.getElem?_cons_zero, List.getElem?_cons_succ, Yld.val, decide_true, decide_false, if_true, if_false, Bool.false_eq_true, Nat.zero_add, Nat.add_zero, and_true, true_and, or_false, Bool.not_true, Bool.not_false, and_self, wBin_add64, wBin_sub64, wIdx_slice, wIdx_array, wNilc_eq, Int.toNat_natCast, Nat.mul_one, Nat.zero_mul, wSt_agg, wSt_int, wSt_bool, wSt_string, wSt_slice, wSt_ptr, wSt_map, wSt_func, stP_cells, bit_one, bit_zero, bit_one', bit_zero', wBin_shr32, wBin_and1, wBin_rem2, wBin_andNot32, wBin_or32, wBin_and32, wBin_shl32, u32_eq_zero, u32_ne_zero, List.length_cons, List.length_nil, Nat.le_refl, Nat.reduceAdd, Nat.reduceMul, Nat.reduceLeDiff, Int.toNat_zero, Int.toNat_one, hi', wJoin_eq, ldP_row hrow, g0, hg]
  by_cases h1 : x < 0
  · simp (disch := first | omega | assumption | exact shr_lt (by assumption) | exact ndiff32 (by assumption) | exact below_lt (by omega) | fail) only [List.getD_cons_zero, List.getD_cons_succ, wBin_lss, wBin_leq, wBin_gtr, wBin_geq, wBin_eql, wBin_neq, wIf_bool, wGuard_true, wGuard_false, wPick_true, wPick_false, wUn_not, wFld_eq, wExt_eq, wPart_one, wPart_agg, wLen_slice, wLen_string, wNew_eq, wNm_eq, dBox_agg, dBox_int, dBox_slice, dBox_string, dBox_bool, dBox_map, dBox_ptr, oneCells, wLd_none, wLd_2, wLd_3, wLd_32, ldP_cells, ldP_rom, cellP_one, getH_same, getH_ne, forceV_eq, forceN_eq, hsK_eq, Option.elim_some, List.getElem?_cons_zero, List.getElem?_cons_succ, Yld.val, decide_true, decide_false, if_true, if_false, Bool.false_eq_true, Nat.zero_add, Nat.add_zero, and_true, true_and, or_false, Bool.not_true, Bool.not_false, and_self, wBin_add64, wBin_sub64, wIdx_slice, wIdx_array, wNilc_eq, Int.toNat_natCast, Nat.mul_one, Nat.zero_mul, wSt_agg, wSt_int, wSt_bool, wSt_string, wSt_slice, wSt_ptr, wSt_map, wSt_func, stP_cells, bit_one, bit_zero, bit_one', bit_zero', wBin_shr32, wBin_and1, wBin_rem2, wBin_andNot32, wBin_or32, wBin_and32, wBin_shl32, u32_eq_zero, u32_ne_zero, List.length_cons, List.length_nil, Nat.le_refl, Nat.reduceAdd, Nat.reduceMul, Nat.reduceLeDiff, Int.toNat_zero, Int.toNat_one, h1]
    exact hbad fun h => by have := h.1 x hxm; omega
  by_cases h2 : x ≥ (n : Int)
  · simp (disch := first | omega | assumption | exact shr_lt (by assumption) | exact ndiff32 (by assumption) | exact below_lt (by omega) | fail) only [List.getD_cons_zero, List.getD_cons_succ, wBin_lss, wBin_leq, wBin_gtr, wBin_geq, wBin_eql, wBin_neq, wIf_bool, wGuard_true, wGuard_false, wPick_true, wPick_false, wUn_not, wFld_eq, wExt_eq, wPart_one, wPart_agg, wLen_slice, wLen_string, wNew_eq, wNm_eq, dBox_agg, dBox_int, dBox_slice, dBox_string, dBox_bool, dBox_map, dBox_ptr, oneCells, wLd_none, wLd_2, wLd_3, wLd_32, ldP_cells, ldP_rom, cellP_one, getH_same, getH_ne, forceV_eq, forceN_eq, hsK_eq, Option.elim_some, List.getElem?_cons_zero, List.getElem?_cons_succ, Yld.val, decide_true, decide_false, if_true, if_false, Bool.false_eq_true, Nat.zero_add, Nat.add_zero, and_true, true_and, or_false, Bool.not_true, Bool.not_false, and_self, wBin_add64, wBin_sub64, wIdx_slice, wIdx_array, wNilc_eq, Int.toNat_natCast, Nat.mul_one, Nat.zero_mul, wSt_agg, wSt_int, wSt_bool, wSt_string, wSt_slice, wSt_ptr, wSt_map, wSt_func, stP_cells, bit_one, bit_zero, bit_one', bit_zero', wBin_shr32, wBin_and1, wBin_rem2, wBin_andNot32, wBin_or32, wBin_and32, wBin_shl32, u32_eq_zero, u32_ne_zero, List.length_cons, List.length_nil, Nat.le_refl, Nat.reduceAdd, Nat.reduceMul, Nat.reduceLeDiff, Int.toNat_zero, Int.toNat_one, h1, h2]
    exact hbad fun h => by have := h.1 x hxm; omega
  obtain ⟨w, rfl⟩ : ∃ w : Nat, x = w := ⟨x.toNat, by omega⟩
  have hw : w < n := by omega
  have hs32 := setL_lt (l.take i) hn
  have hb : (setL (l.take i) n).testBit w = decide ((w : Int) ∈ l.take i) := by unfold setL; rw [maskOf_bit]; simp [hw]
  by_cases hmem : (w : Int) ∈ l.take i
  · have hb' : (setL (l.take i) n).testBit w = true := by rw [hb]; simp [hmem]
    simp (disch := first | omega | assumption | exact shr_lt (by assumption) | exact ndiff32 (by assumption) | exact below_lt (by omega) | fail) only [List.getD_cons_zero, List.getD_cons_succ, wBin_lss, wBin_leq, wBin_gtr, wBin_geq, wBin_eql, wBin_neq, wIf_bool, wGuard_true, wGuard_false, wPick_true, wPick_false, wUn_not, wFld_eq, wExt_eq, wPart_one, wPart_agg, wLen_slice, wLen_string, wNew_eq, wNm_eq, dBox_agg, dBox_int, dBox_slice, dBox_string, dBox_bool, dBox_map, dBox_ptr, oneCells, wLd_none, wLd_2, wLd_3, wLd_32, ldP_cells, ldP_rom, cellP_one, getH_same, getH_ne, forceV_eq, forceN_eq, hsK_eq, Option.elim_some, List.getElem?_cons_zero, List.getElem?_cons_succ, Yld.val, decide_true, decide_false, if_true, if_false, Bool.false_eq_true, Nat.zero_add, Nat.add_zero, and_true, true_and, or_false, Bool.not_true, Bool.not_false, and_self, wBin_add64, wBin_sub64, wIdx_slice, wIdx_array, wNilc_eq, Int.toNat_natCast, Nat.mul_one, Nat.zero_mul, wSt_agg, wSt_int, wSt_bool, wSt_string, wSt_slice, wSt_ptr, wSt_map, wSt_func, stP_cells, bit_one, bit_zero, bit_one', bit_zero', wBin_shr32, wBin_and1, wBin_rem2, wBin_andNot32, wBin_or32, wBin_and32, wBin_shl32, u32_eq_zero, u32_ne_zero, List.length_cons, List.length_nil, Nat.le_refl, Nat.reduceAdd, Nat.reduceMul, Nat.reduceLeDiff, Int.toNat_zero, Int.toNat_one, h1, h2, hb']
    refine hbad fun h => ?_
    obtain ⟨j, hj, hje⟩ := List.getElem_of_mem hmem
    have hj2 : l[j]? = some (w : Int) := by
      rw [List.length_take] at hj
      rw [List.getElem_take] at hje
      rw [List.getElem?_eq_getElem (by omega), hje]
    have := nodup_atG h.2 hj2 hx
    rw [List.length_take] at hj
    omega
  · have hb' : (setL (l.take i) n).testBit w = false := by rw [hb]; simp [hmem]
    have hp : 2 ^ w < 4294967296 := pow32 (by omega)
    simp (disch := first | omega | assumption | exact shr_lt (by assumption) | exact ndiff32 (by assumption) | exact below_lt (by omega) | fail) only [List.getD_cons_zero, List.getD_cons_succ, wBin_lss, wBin_leq, wBin_gtr, wBin_geq, wBin_eql, wBin_neq, wIf_bool, wGuard_true, wGuard_false, wPick_true, wPick_false, wUn_not, wFld_eq, wExt_eq, wPart_one, wPart_agg, wLen_slice, wLen_string, wNew_eq, wNm_eq, dBox_agg, dBox_int, dBox_slice, dBox_string, dBox_bool, dBox_map, dBox_ptr, oneCells, wLd_none, wLd_2, wLd_3, wLd_32, ldP_cells, ldP_rom, cellP_one, getH_same, getH_ne, forceV_eq, forceN_eq, hsK_eq, Option.elim_some, List.getElem?_cons_zero, List.getElem?_cons_succ, Yld.val, decide_true, decide_false, if_true, if_false, Bool.false_eq_true, Nat.zero_add, Nat.add_zero, and_true, true_and, or_false, Bool.not_true, Bool.not_false, and_self, wBin_add64, wBin_sub64, wIdx_slice, wIdx_array, wNilc_eq, Int.toNat_natCast, Nat.mul_one, Nat.zero_mul, wSt_agg, wSt_int, wSt_bool, wSt_string, wSt_slice, wSt_ptr, wSt_map, wSt_func, stP_cells, bit_one, bit_zero, bit_one', bit_zero', wBin_shr32, wBin_and1, wBin_rem2, wBin_andNot32, wBin_or32, wBin_and32, wBin_shl32, u32_eq_zero, u32_ne_zero, List.length_cons, List.length_nil, Nat.le_refl, Nat.reduceAdd, Nat.reduceMul, Nat.reduceLeDiff, Int.toNat_zero, Int.toNat_one, h1, h2, hb', setL_next hx hw]
    refine hih (m - 1) _ _ _ (by omega) ⟨i + 1, by omega, by simp, ?_, ?_, rfl, rfl⟩
    · rw [take_next hx]
      intro z hz
      rcases List.mem_append.1 hz with hz | hz
      · exact hin z hz
      · rw [List.mem_singleton.1 hz]; omega
    · rw [take_next hx]
      exact nodup_snoc hnd hmem

/-! Pairs of places. -/
theorem all_succ (Q : Nat → Bool) (i : Nat) : (List.range (i + 1)).all Q = ((List.range i).all Q && Q i) := by
  rw [List.range_succ, List.all_append]; simp
theorem all_no {Q : Nat → Bool} {i n : Nat} (hi : i < n) (h : Q i = false) : (List.range n).all Q = false := by
  rw [List.all_eq_false]
  exact ⟨i, List.mem_range.2 hi, by simp [h]⟩
def pairs (P : Nat → Nat → Bool) (i : Nat) : Bool := (List.range i).all fun a => (List.range a).all fun b => P a b
theorem pairs_succ (P : Nat → Nat → Bool) (i : Nat) : pairs P (i + 1) = (pairs P i && (List.range i).all (P i)) := all_succ _ _
def vAt (l : List Int) (i : Nat) : Nat := (l.getD i 0).toNat
theorem vAt_eq {l : List Int} {i : Nat} {w : Nat} (h : l[i]? = some (w : Int)) : vAt l i = w := by
  unfold vAt; rw [List.getD_eq_getElem?_getD, h]; rfl
theorem lOK.get {l : List Int} {n : Nat} (h : lOK l n) {i : Nat} (hi : i < l.length) : ∃ w : Nat, l[i]? = some (w : Int) ∧ w < n := by
  have := h.1 l[i] (List.getElem_mem hi)
  exact ⟨l[i].toNat, by rw [List.getElem?_eq_getElem hi]; congr 1; omega, by omega⟩
def linkB (es : List Nat) (l : List Int) (i j : Nat) : Bool := adj es (vAt l i) (vAt l j)
def nearB (len i j : Nat) : Bool := decide (j + 1 = i) || (decide (j = 0) && decide (i + 1 = len))
open Classical in
noncomputable def obR (es : List Nat) (n : Nat) (l : List Int) : Bool :=
  if lOK l n then
    (if (decide (3 ≤ l.length) && pairs (linkB es l) l.length) = true then !insB es (setL l n)
      else decide (4 ≤ l.length) && pairs (fun i j => linkB es l i j == nearB l.length i j) l.length)
  else false

set_option maxHeartbeats 2000000 in
theorem obstruction18 {n : Nat} (hn : n ≤ 32) (A : Option Addr) (es : List Nat) (cap : Nat) (P : Option Addr) (l : List Int) (capP : Nat) (H : Heap) (nx : Nat) (hS : Sl H nx A (u32s es)) (hsm : ∀ e ∈ es, e < 2 ^ n) (hle : es.length ≤ 64) (hgc : gcode n es = 0)
    (hP : Sl H nx P (i64s l)) (hl : l.length ≤ 40) :
    Ans Tryz.prog 18 [gv n A es.length cap, .slice P l.length capP] H nx fun r H' nx' => r = .bool (obR es n l) ∧ Ext H nx H' nx' := by
  have hsm32 : Small es := fun e he => Nat.lt_of_lt_of_le (hsm e he) (Nat.le_trans (Nat.pow_le_pow_right (by omega) hn) (by decide))
  refine spec18 ?_
  unfold F18
  have hE1 : Ext H nx (hs H nx (some (.cells [.int .i64 n, .slice A es.length cap] 0))) (nx + 1) := (Ext.refl H nx).new _ (Nat.le_refl _) (by omega)
  rw [dBox_agg, if_pos (show oneCells _ = true from rfl), wNew_eq]
  simp only [Yld.val]
  rw [wLd_2, getH_same, ldP_cells, cellP_lit2]
  refine wCall_rule (check37 n A es cap _ _ (hS.ext hE1) hsm32) ?_
  rintro _ H2 nx2 ⟨rfl, hE2⟩
  have hEE2 := hE1.trans hE2
  have hg2 := hE2.get nx (by omega)
  rw [getH_same] at hg2
  have hnx2 := hE2.le
  have d1 : decide (gcode n es ≠ 0) = false := by simp [hgc]
  simp only [wBin_neq, d1, wIf_bool, Bool.false_eq_true, if_false, wLen_slice]
  refine scan_rule hn (show l.length ≤ 1000 by omega) (hP.ext hEE2) hg2 ?_ ?_
  · intro h
    exact ⟨by rw [obR, if_neg h], hEE2⟩
  intro hok
  simp (disch := first | omega | assumption | exact shr_lt (by assumption) | exact ndiff32 (by assumption) | exact below_lt (by omega) | fail) only [List.getD_cons_zero, List.getD_cons_succ, wBin_lss, wBin_leq, wBin_gtr, wBin_geq, wBin_eql, wBin_neq, wIf_bool, wGuard_true, wGuard_false, wPick_true, wPick_false, wUn_not, wFld_eq, wExt_eq, wPart_one, wPart_agg, wLen_slice, wLen_string, wNew_eq, wNm_eq, dBox_agg, dBox_int, dBox_slice, dBox_string, dBox_bool, dBox_map, dBox_ptr, oneCells, wLd_none, wLd_2, wLd_3, wLd_32, ldP_cells, ldP_rom, cellP_one, getH_same, getH_ne, forceV_eq, forceN_eq, hsK_eq, Option.elim_some, List.getElem?_cons_zero, List.getElem?_cons_succ, Yld.val, decide_true, decide_false, if_true, if_false, Bool.false_eq_true, Nat.zero_add, Nat.add_zero, and_true, true_and, or_false, Bool.not_true, Bool.not_false, and_self, wBin_add64, wBin_sub64, wIdx_slice, wIdx_array, wNilc_eq, Int.toNat_natCast, Nat.mul_one, Nat.zero_mul, wSt_agg, wSt_int, wSt_bool, wSt_string, wSt_slice, wSt_ptr, wSt_map, wSt_func, stP_cells, bit_one, bit_zero, bit_one', bit_zero', wBin_shr32, wBin_and1, wBin_rem2, wBin_andNot32, wBin_or32, wBin_and32, wBin_shl32, u32_eq_zero, u32_ne_zero, List.length_cons, List.length_nil, Nat.le_refl, Nat.reduceAdd, Nat.reduceMul, Nat.reduceLeDiff, Int.toNat_zero, Int.toNat_one, hg2, cellP_lit2]
  refine wCall_rule (adj69 hn A es cap _ _ (hS.ext hEE2) hsm hle) ?_
  rintro _ H3 nx3 ⟨rfl, hE3⟩
  have hEE3 := hEE2.trans hE3
  have hg3 := (hE3.get nx (by omega)).trans hg2
  have hnx3 := hE3.le
  have e1 : (u32s (nears es n)).length = 32 := by rw [u32s_length]; exact nears_len es n
  have e2 : (u32s (List.replicate 32 0)).length = 32 := by rw [u32s_length]; simp
  have e3 := putL_all (c := u32s (List.replicate 32 0)) (vs := u32s (nears es n)) (by rw [e1, e2])
  have e4 := oneCells_u32s (nears es n)
  simp (disch := first | omega | assumption | exact shr_lt (by assumption) | exact ndiff32 (by assumption) | exact below_lt (by omega) | fail) only [List.getD_cons_zero, List.getD_cons_succ, wBin_lss, wBin_leq, wBin_gtr, wBin_geq, wBin_eql, wBin_neq, wIf_bool, wGuard_true, wGuard_false, wPick_true, wPick_false, wUn_not, wFld_eq, wExt_eq, wPart_one, wPart_agg, wLen_slice, wLen_string, wNew_eq, wNm_eq, dBox_agg, dBox_int, dBox_slice, dBox_string, dBox_bool, dBox_map, dBox_ptr, oneCells, wLd_none, wLd_2, wLd_3, wLd_32, ldP_cells, ldP_rom, cellP_one, getH_same, getH_ne, forceV_eq, forceN_eq, hsK_eq, Option.elim_some, List.getElem?_cons_zero, List.getElem?_cons_succ, Yld.val, decide_true, decide_false, if_true, if_false, Bool.false_eq_true, Nat.zero_add, Nat.add_zero, and_true, true_and, or_false, Bool.not_true, Bool.not_false, and_self, wBin_add64, wBin_sub64, wIdx_slice, wIdx_array, wNilc_eq, Int.toNat_natCast, Nat.mul_one, Nat.zero_mul, wSt_agg, wSt_int, wSt_bool, wSt_string, wSt_slice, wSt_ptr, wSt_map, wSt_func, stP_cells, bit_one, bit_zero, bit_one', bit_zero', wBin_shr32, wBin_and1, wBin_rem2, wBin_andNot32, wBin_or32, wBin_and32, wBin_shl32, u32_eq_zero, u32_ne_zero, List.length_cons, List.length_nil, Nat.le_refl, Nat.reduceAdd, Nat.reduceMul, Nat.reduceLeDiff, Int.toNat_zero, Int.toNat_one, zeros32, e1, e2, e3, e4]
  generalize hK : hs (hs H3 nx3 (some (.cells (u32s (List.replicate 32 0)) 0))) nx3 (some (.cells (u32s (nears es n)) 0)) = K
  have kN : getH K nx3 = some (.cells (u32s (nears es n)) 0) := by rw [← hK, getH_same]
  have kE : Ext H3 nx3 K (nx3 + 1) := by rw [← hK]; exact ((Ext.refl H3 nx3).new _ (Nat.le_refl _) (by omega) : Ext H3 nx3 _ (nx3 + 1)).hs (Nat.le_refl _)
  have kEE := hEE3.trans kE
  have kG := (kE.get nx (by omega)).trans hg3
  have hd3 : decide ((l.length : Int) ≥ 3) = decide (3 ≤ l.length) := by congr 1; apply propext; omega
  have hd4 : decide ((l.length : Int) ≥ 4) = decide (4 ≤ l.length) := by congr 1; apply propext; omega
  rw [hd3, hd4]
  refine wLoop_rule (m := l.length) (fun m L H' nx' => ∃ i : Nat, m + i = l.length ∧ L = [.bool (decide (3 ≤ l.length) && pairs (linkB es l) i), .bool (decide (4 ≤ l.length) && pairs (fun i j => linkB es l i j == nearB l.length i j) i), .int .i64 (i : Int)] ∧ K = H' ∧ nx3 + 1 ≤ nx') ?_ ⟨0, rfl, by simp [pairs], rfl, Nat.le_refl _⟩
  rintro m ih L _ n4 ⟨i, hm, rfl, rfl, hn4⟩ hih
  simp (disch := first | omega | assumption | exact shr_lt (by assumption) | exact ndiff32 (by assumption) | exact below_lt (by omega) | fail) only [List.getD_cons_zero, List.getD_cons_succ, wBin_lss, wBin_leq, wBin_gtr, wBin_geq, wBin_eql, wBin_neq, wIf_bool, wGuard_true, wGuard_false, wPick_true, wPick_false, wUn_not, wFld_eq, wExt_eq, wPart_one, wPart_agg, wLen_slice, wLen_string, wNew_eq, wNm_eq, dBox_agg, dBox_int, dBox_slice, dBox_string, dBox_bool, dBox_map, dBox_ptr, oneCells, wLd_none, wLd_2, wLd_3, wLd_32, ldP_cells, ldP_rom, cellP_one, getH_same, getH_ne, forceV_eq, forceN_eq, hsK_eq, Option.elim_some, List.getElem?_cons_zero, List.getElem?_cons_succ, Yld.val, decide_true, decide_false, if_true, if_false, Bool.false_eq_true, Nat.zero_add, Nat.add_zero, and_true, true_and, or_false, Bool.not_true, Bool.not_false, and_self, wBin_add64, wBin_sub64, wIdx_slice, wIdx_array, wNilc_eq, Int.toNat_natCast, Nat.mul_one, Nat.zero_mul, wSt_agg, wSt_int, wSt_bool, wSt_string, wSt_slice, wSt_ptr, wSt_map, wSt_func, stP_cells, bit_one, bit_zero, bit_one', bit_zero', wBin_shr32, wBin_and1, wBin_rem2, wBin_andNot32, wBin_or32, wBin_and32, wBin_shl32, u32_eq_zero, u32_ne_zero, List.length_cons, List.length_nil, Nat.le_refl, Nat.reduceAdd, Nat.reduceMul, Nat.reduceLeDiff, Int.toNat_zero, Int.toNat_one]
  by_cases hi : i < l.length
  case neg =>
    have hi' : ¬ (i : Int) < (l.length : Int) := by omega
    have : i = l.length := by omega
    subst this
    simp (disch := first | omega | assumption | exact shr_lt (by assumption) | exact ndiff32 (by assumption) | exact below_lt (by omega) | fail) only [List.getD_cons_zero, List.getD_cons_succ, wBin_lss, wBin_leq, wBin_gtr, wBin_geq, wBin_eql, wBin_neq, wIf_bool, wGuard_true, wGuard_false, wPick_true, wPick_false, wUn_not, wFld_eq, wExt_eq, wPart_one, wPart_agg, wLen_slice, wLen_string, wNew_eq, wNm_eq, dBox_agg, dBox_int, dBox_slice, dBox_string, dBox_bool, dBox_map, dBox_ptr, oneCells, wLd_none, wLd_2, wLd_3, wLd_32, ldP_cells, ldP_rom, cellP_one, getH_same, getH_ne, forceV_eq, forceN_eq, hsK_eq, Option.elim_some, List.getElem?_cons_zero, List.getElem?_cons_succ, Yld.val, decide_true, decide_false, if_true, if_false, Bool.false_eq_true, Nat.zero_add, Nat.add_zero, and_true, true_and, or_false, Bool.not_true, Bool.not_false, and_self, wBin_add64, wBin_sub64, wIdx_slice, wIdx_array, wNilc_eq, Int.toNat_natCast, Nat.mul_one, Nat.zero_mul, wSt_agg, wSt_int, wSt_bool, wSt_string, wSt_slice, wSt_ptr, wSt_map, wSt_func, stP_cells, bit_one, bit_zero, bit_one', bit_zero', wBin_shr32, wBin_and1, wBin_rem2, wBin_andNot32, wBin_or32, wBin_and32, wBin_shl32, u32_eq_zero, u32_ne_zero, List.length_cons, List.length_nil, Nat.le_refl, Nat.reduceAdd, Nat.reduceMul, Nat.reduceLeDiff, Int.toNat_zero, Int.toNat_one, hi']
    cases hcl : (decide (3 ≤ l.length) && pairs (linkB es l) l.length) with
    | false =>
      simp (disch := first | omega | assumption | exact shr_lt (by assumption) | exact ndiff32 (by assumption) | exact below_lt (by omega) | fail) only [List.getD_cons_zero, List.getD_cons_succ, wBin_lss, wBin_leq, wBin_gtr, wBin_geq, wBin_eql, wBin_neq, wIf_bool, wGuard_true, wGuard_false, wPick_true, wPick_false, wUn_not, wFld_eq, wExt_eq, wPart_one, wPart_agg, wLen_slice, wLen_string, wNew_eq, wNm_eq, dBox_agg, dBox_int, dBox_slice, dBox_string, dBox_bool, dBox_map, dBox_ptr, oneCells, wLd_none, wLd_2, wLd_3, wLd_32, ldP_cells, ldP_rom, cellP_one, getH_same, getH_ne, forceV_eq, forceN_eq, hsK_eq, Option.elim_some, List.getElem?_cons_zero, List.getElem?_cons_succ, Yld.val, decide_true, decide_false, if_true, if_false, Bool.false_eq_true, Nat.zero_add, Nat.add_zero, and_true, true_and, or_false, Bool.not_true, Bool.not_false, and_self, wBin_add64, wBin_sub64, wIdx_slice, wIdx_array, wNilc_eq, Int.toNat_natCast, Nat.mul_one, Nat.zero_mul, wSt_agg, wSt_int, wSt_bool, wSt_string, wSt_slice, wSt_ptr, wSt_map, wSt_func, stP_cells, bit_one, bit_zero, bit_one', bit_zero', wBin_shr32, wBin_and1, wBin_rem2, wBin_andNot32, wBin_or32, wBin_and32, wBin_shl32, u32_eq_zero, u32_ne_zero, List.length_cons, List.length_nil, Nat.le_refl, Nat.reduceAdd, Nat.reduceMul, Nat.reduceLeDiff, Int.toNat_zero, Int.toNat_one]
      exact ⟨by rw [obR, if_pos hok, hcl]; rfl, kEE.more hn4⟩
    | true =>
      simp (disch := first | omega | assumption | exact shr_lt (by assumption) | exact ndiff32 (by assumption) | exact below_lt (by omega) | fail) only [List.getD_cons_zero, List.getD_cons_succ, wBin_lss, wBin_leq, wBin_gtr, wBin_geq, wBin_eql, wBin_neq, wIf_bool, wGuard_true, wGuard_false, wPick_true, wPick_false, wUn_not, wFld_eq, wExt_eq, wPart_one, wPart_agg, wLen_slice, wLen_string, wNew_eq, wNm_eq, dBox_agg, dBox_int, dBox_slice, dBox_string, dBox_bool, dBox_map, dBox_ptr, oneCells, wLd_none, wLd_2, wLd_3, wLd_32, ldP_cells, ldP_rom, cellP_one, getH_same, getH_ne, forceV_eq, forceN_eq, hsK_eq, Option.elim_some, List.getElem?_cons_zero, List.getElem?_cons_succ, Yld.val, decide_true, decide_false, if_true, if_false, Bool.false_eq_true, Nat.zero_add, Nat.add_zero, and_true, true_and, or_false, Bool.not_true, Bool.not_false, and_self, wBin_add64, wBin_sub64, wIdx_slice, wIdx_array, wNilc_eq, Int.toNat_natCast, Nat.mul_one, Nat.zero_mul, wSt_agg, wSt_int, wSt_bool, wSt_string, wSt_slice, wSt_ptr, wSt_map, wSt_func, stP_cells, bit_one, bit_zero, bit_one', bit_zero', wBin_shr32, wBin_and1, wBin_rem2, wBin_andNot32, wBin_or32, wBin_and32, wBin_shl32, u32_eq_zero, u32_ne_zero, List.length_cons, List.length_nil, Nat.le_refl, Nat.reduceAdd, Nat.reduceMul, Nat.reduceLeDiff, Int.toNat_zero, Int.toNat_one, kG, cellP_lit2]
      refine wCall_rule (inside38 hn (setL_lt l hn) A es cap _ _ (hS.ext (kEE.more hn4)) hsm32 hle hgc) ?_
      rintro _ H6 nx6 ⟨⟨x, rfl⟩, hE6⟩
      simp (disch := first | omega | assumption | exact shr_lt (by assumption) | exact ndiff32 (by assumption) | exact below_lt (by omega) | fail) only [List.getD_cons_zero, List.getD_cons_succ, wBin_lss, wBin_leq, wBin_gtr, wBin_geq, wBin_eql, wBin_neq, wIf_bool, wGuard_true, wGuard_false, wPick_true, wPick_false, wUn_not, wFld_eq, wExt_eq, wPart_one, wPart_agg, wLen_slice, wLen_string, wNew_eq, wNm_eq, dBox_agg, dBox_int, dBox_slice, dBox_string, dBox_bool, dBox_map, dBox_ptr, oneCells, wLd_none, wLd_2, wLd_3, wLd_32, ldP_cells, ldP_rom, cellP_one, getH_same, getH_ne, forceV_eq, forceN_eq, hsK_eq, Option.elim_some, List.getElem?_cons_zero, List.getElem?_cons_succ, Yld.val, decide_true, decide_false, if_true, if_false, Bool.false_eq_true, Nat.zero_add, Nat.add_zero, and_true, true_and, or_false, Bool.not_true, Bool.not_false, and_self, wBin_add64, wBin_sub64, wIdx_slice, wIdx_array, wNilc_eq, Int.toNat_natCast, Nat.mul_one, Nat.zero_mul, wSt_agg, wSt_int, wSt_bool, wSt_string, wSt_slice, wSt_ptr, wSt_map, wSt_func, stP_cells, bit_one, bit_zero, bit_one', bit_zero', wBin_shr32, wBin_and1, wBin_rem2, wBin_andNot32, wBin_or32, wBin_and32, wBin_shl32, u32_eq_zero, u32_ne_zero, List.length_cons, List.length_nil, Nat.le_refl, Nat.reduceAdd, Nat.reduceMul, Nat.reduceLeDiff, Int.toNat_zero, Int.toNat_one]
      exact ⟨by rw [obR, if_pos hok, hcl]; rfl, (kEE.more hn4).trans hE6⟩
  have hi' : (i : Int) < (l.length : Int) := by omega
  obtain ⟨u, hu, hun⟩ := hok.get hi
  obtain ⟨B, o, row, rfl, hBn, hrow, hget⟩ := (hP.ext kEE).open (i := i) (by rw [i64s_length]; omega)
  have g0 := hget _ _ (i64s_get hu)
  simp (disch := first | omega | assumption | exact shr_lt (by assumption) | exact ndiff32 (by assumption) | exact below_lt (by omega) | fail) only [List.getD_cons_zero, List.getD_cons_succ, wBin_lss, wBin_leq, wBin_gtr, wBin_geq, wBin_eql, wBin_neq, wIf_bool, wGuard_true, wGuard_false, wPick_true, wPick_false, wUn_not, wFld_eq, wExt_eq, wPart_one, wPart_agg, wLen_slice, wLen_string, wNew_eq, wNm_eq, dBox_agg, dBox_int, dBox_slice, dBox_string, dBox_bool, dBox_map, dBox_ptr, oneCells, wLd_none, wLd_2, wLd_3, wLd_32, ldP_cells, ldP_rom, cellP_one, getH_same, getH_ne, forceV_eq, forceN_eq, hsK_eq, Option.elim_some, List.getElem?_cons_zero, List.getElem?_cons_succ, Yld.val, decide_true, decide_false, if_true, if_false, Bool.false_eq_true, Nat.zero_add, Nat.add_zero, and_true, true_and, or_false, Bool.not_true, Bool.not_false, and_self, wBin_add64, wBin_sub64, wIdx_slice, wIdx_array, wNilc_eq, Int.toNat_natCast, Nat.mul_one, Nat.zero_mul, wSt_agg, wSt_int, wSt_bool, wSt_string, wSt_slice, wSt_ptr, wSt_map, wSt_func, stP_cells, bit_one, bit_zero, bit_one', bit_zero', wBin_shr32, wBin_and1, wBin_rem2, wBin_andNot32, wBin_or32, wBin_and32, wBin_shl32, u32_eq_zero, u32_ne_zero, List.length_cons, List.length_nil, Nat.le_refl, Nat.reduceAdd, Nat.reduceMul, Nat.reduceLeDiff, Int.toNat_zero, Int.toNat_one, hi', ldP_row hrow, g0]
  refine wLoop_rule (m := i) (fun m2 L H' nx' => ∃ j : Nat, m2 + j = i ∧ L = [.bool ((decide (3 ≤ l.length) && pairs (linkB es l) i) && (List.range j).all (linkB es l i)), .bool ((decide (4 ≤ l.length) && pairs (fun i j => linkB es l i j == nearB l.length i j) i) && (List.range j).all (fun j => linkB es l i j == nearB l.length i j)), .int .i64 (j : Int)] ∧ K = H' ∧ nx3 + 1 ≤ nx') ?_ ⟨0, rfl, by simp, rfl, hn4⟩
  rintro m2 ih2 L2 _ n5 ⟨j, hm2, rfl, rfl, hn5⟩ hih2
  simp (disch := first | omega | assumption | exact shr_lt (by assumption) | exact ndiff32 (by assumption) | exact below_lt (by omega) | fail) only [List.getD_cons_zero, List.getD_cons_succ, wBin_lss, wBin_leq, wBin_gtr, wBin_geq, wBin_eql, wBin_neq, wIf_bool, wGuard_true, wGuard_false, wPick_true, wPick_false, wUn_not, wFld_eq, wExt_eq, wPart_one, wPart_agg, wLen_slice, wLen_string, wNew_eq, wNm_eq, dBox_agg, dBox_int, dBox_slice, dBox_string, dBox_bool, dBox_map, dBox_ptr, oneCells, wLd_none, wLd_2, wLd_3, wLd_32, ldP_cells, ldP_rom, cellP_one, getH_same, getH_ne, forceV_eq, forceN_eq, hsK_eq, Option.elim_some, List.getElem?_cons_zero, List.getElem?_cons_succ, Yld.val, decide_true, decide_false, if_true, if_false, Bool.false_eq_true, Nat.zero_add, Nat.add_zero, and_true, true_and, or_false, Bool.not_true, Bool.not_false, and_self, wBin_add64, wBin_sub64, wIdx_slice, wIdx_array, wNilc_eq, Int.toNat_natCast, Nat.mul_one, Nat.zero_mul, wSt_agg, wSt_int, wSt_bool, wSt_string, wSt_slice, wSt_ptr, wSt_map, wSt_func, stP_cells, bit_one, bit_zero, bit_one', bit_zero', wBin_shr32, wBin_and1, wBin_rem2, wBin_andNot32, wBin_or32, wBin_and32, wBin_shl32, u32_eq_zero, u32_ne_zero, List.length_cons, List.length_nil, Nat.le_refl, Nat.reduceAdd, Nat.reduceMul, Nat.reduceLeDiff, Int.toNat_zero, Int.toNat_one]
  by_cases hj : j < i
  case neg =>
    have hj' : ¬ (j : Int) < (i : Int) := by omega
    have : j = i := by omega
    subst this
    simp (disch := first | omega | assumption | exact shr_lt (by assumption) | exact ndiff32 (by assumption) | exact below_lt (by omega) | fail) only [List.getD_cons_zero, List.getD_cons_succ, wBin_lss, wBin_leq, wBin_gtr, wBin_geq, wBin_eql, wBin_neq, wIf_bool, wGuard_true, wGuard_false, wPick_true, wPick_false, wUn_not, wFld_eq, wExt_eq, wPart_one, wPart_agg, wLen_slice, wLen_string, wNew_eq, wNm_eq, dBox_agg, dBox_int, dBox_slice, dBox_string, dBox_bool, dBox_map, dBox_ptr, oneCells, wLd_none, wLd_2, wLd_3, wLd_32, ldP_cells, ldP_rom, cellP_one, getH_same, getH_ne, forceV_eq, forceN_eq, hsK_eq, Option.elim_some, List.getElem?_cons_zero, List.getElem?_cons_succ, Yld.val, decide_true, decide_false, if_true, if_false, Bool.false_eq_true, Nat.zero_add, Nat.add_zero, and_true, true_and, or_false, Bool.not_true, Bool.not_false, and_self, wBin_add64, wBin_sub64, wIdx_slice, wIdx_array, wNilc_eq, Int.toNat_natCast, Nat.mul_one, Nat.zero_mul, wSt_agg, wSt_int, wSt_bool, wSt_string, wSt_slice, wSt_ptr, wSt_map, wSt_func, stP_cells, bit_one, bit_zero, bit_one', bit_zero', wBin_shr32, wBin_and1, wBin_rem2, wBin_andNot32, wBin_or32, wBin_and32, wBin_shl32, u32_eq_zero, u32_ne_zero, List.length_cons, List.length_nil, Nat.le_refl, Nat.reduceAdd, Nat.reduceMul, Nat.reduceLeDiff, Int.toNat_zero, Int.toNat_one, hj']
    refine hih (m - 1) _ _ _ (by omega) ⟨j + 1, by omega, ?_, rfl, hn5⟩
    rw [pairs_succ, pairs_succ]
    simp [Bool.and_assoc]
  have hj' : (j : Int) < (i : Int) := by omega
  have hjl : (j : Int) < (l.length : Int) := by omega
  obtain ⟨v, hv, hvn⟩ := hok.get (show j < l.length by omega)
  have g1 := hget _ _ (i64s_get hv)
  have gn := u32s_get (nears_get es hn hun)
  have hu32 : (u : Int) < 32 := by omega
  have hmk := Nat.lt_of_lt_of_le (maskOf_lt (adj es u) n) (Nat.le_trans (Nat.pow_le_pow_right (by omega) hn) (show 2 ^ 32 ≤ 4294967296 by decide))
  have hbit : (maskOf (adj es u) n).testBit v = linkB es l i j := by rw [maskOf_bit, linkB, vAt_eq hu, vAt_eq hv]; simp [hvn]
  have fin : ∀ a b : Bool, a = ((decide (3 ≤ l.length) && pairs (linkB es l) i) && (List.range (j + 1)).all (linkB es l i)) → b = ((decide (4 ≤ l.length) && pairs (fun i j => linkB es l i j == nearB l.length i j) i) && (List.range (j + 1)).all (fun j => linkB es l i j == nearB l.length i j)) → ih2 [.bool a, .bool b, .int .i64 ((j : Int) + 1)] K (n5 + 11) := by
    rintro a b rfl rfl
    exact hih2 (m2 - 1) _ _ _ (by omega) ⟨j + 1, by omega, by simp, rfl, by omega⟩
  have f1 : ((decide (3 ≤ l.length) && pairs (linkB es l) i) && (List.range (j + 1)).all (linkB es l i)) = (((decide (3 ≤ l.length) && pairs (linkB es l) i) && (List.range j).all (linkB es l i)) && linkB es l i j) := by rw [all_succ, ← Bool.and_assoc]
  have f2 : ((decide (4 ≤ l.length) && pairs (fun i j => linkB es l i j == nearB l.length i j) i) && (List.range (j + 1)).all (fun j => linkB es l i j == nearB l.length i j)) = (((decide (4 ≤ l.length) && pairs (fun i j => linkB es l i j == nearB l.length i j) i) && (List.range j).all (fun j => linkB es l i j == nearB l.length i j)) && (linkB es l i j == nearB l.length i j)) := by rw [all_succ, ← Bool.and_assoc]
  rw [f1, f2] at fin
  generalize ((decide (3 ≤ l.length) && pairs (linkB es l) i) && (List.range j).all (linkB es l i)) = c1 at fin ⊢
  generalize ((decide (4 ≤ l.length) && pairs (fun i j => linkB es l i j == nearB l.length i j) i) && (List.range j).all (fun j => linkB es l i j == nearB l.length i j)) = c2 at fin ⊢
  by_cases h1 : j + 1 = i
  · have d2 : decide ((j : Int) = (i : Int) - 1) = true := by simp; omega
    have dn : nearB l.length i j = true := by simp [nearB, h1]
    rw [dn] at fin
    simp (disch := first | omega | assumption | exact shr_lt (by assumption) | exact ndiff32 (by assumption) | exact below_lt (by omega) | fail) only [List.getD_cons_zero, List.getD_cons_succ, wBin_lss, wBin_leq, wBin_gtr, wBin_geq, wBin_eql, wBin_neq, wIf_bool, wGuard_true, wGuard_false, wPick_true, wPick_false, wUn_not, wFld_eq, wExt_eq, wPart_one, wPart_agg, wLen_slice, wLen_string, wNew_eq, wNm_eq, dBox_agg, dBox_int, dBox_slice, dBox_string, dBox_bool, dBox_map, dBox_ptr, oneCells, wLd_none, wLd_2, wLd_3, wLd_32, ldP_cells, ldP_rom, cellP_one, getH_same, getH_ne, forceV_eq, forceN_eq, hsK_eq, Option.elim_some, List.getElem?_cons_zero, List.getElem?_cons_succ, Yld.val, decide_true, decide_false, if_true, if_false, Bool.false_eq_true, Nat.zero_add, Nat.add_zero, and_true, true_and, or_false, Bool.not_true, Bool.not_false, and_self, wBin_add64, wBin_sub64, wIdx_slice, wIdx_array, wNilc_eq, Int.toNat_natCast, Nat.mul_one, Nat.zero_mul, wSt_agg, wSt_int, wSt_bool, wSt_string, wSt_slice, wSt_ptr, wSt_map, wSt_func, stP_cells, bit_one, bit_zero, bit_one', bit_zero', wBin_shr32, wBin_and1, wBin_rem2, wBin_andNot32, wBin_or32, wBin_and32, wBin_shl32, u32_eq_zero, u32_ne_zero, List.length_cons, List.length_nil, Nat.le_refl, Nat.reduceAdd, Nat.reduceMul, Nat.reduceLeDiff, Int.toNat_zero, Int.toNat_one, hj', wJoin_eq, d2, hu32, kN, gn, ldP_row hrow, g1, hjl, hbit]
    cases c1 <;> cases c2 <;> simp (disch := first | omega | assumption | exact shr_lt (by assumption) | exact ndiff32 (by assumption) | exact below_lt (by omega) | fail) only [List.getD_cons_zero, List.getD_cons_succ, wBin_lss, wBin_leq, wBin_gtr, wBin_geq, wBin_eql, wBin_neq, wIf_bool, wGuard_true, wGuard_false, wPick_true, wPick_false, wUn_not, wFld_eq, wExt_eq, wPart_one, wPart_agg, wLen_slice, wLen_string, wNew_eq, wNm_eq, dBox_agg, dBox_int, dBox_slice, dBox_string, dBox_bool, dBox_map, dBox_ptr, oneCells, wLd_none, wLd_2, wLd_3, wLd_32, ldP_cells, ldP_rom, cellP_one, getH_same, getH_ne, forceV_eq, forceN_eq, hsK_eq, Option.elim_some, List.getElem?_cons_zero, List.getElem?_cons_succ, Yld.val, decide_true, decide_false, if_true, if_false, Bool.false_eq_true, Nat.zero_add, Nat.add_zero, and_true, true_and, or_false, Bool.not_true, Bool.not_false, and_self, wBin_add64, wBin_sub64, wIdx_slice, wIdx_array, wNilc_eq, Int.toNat_natCast, Nat.mul_one, Nat.zero_mul, wSt_agg, wSt_int, wSt_bool, wSt_string, wSt_slice, wSt_ptr, wSt_map, wSt_func, stP_cells, bit_one, bit_zero, bit_one', bit_zero', wBin_shr32, wBin_and1, wBin_rem2, wBin_andNot32, wBin_or32, wBin_and32, wBin_shl32, u32_eq_zero, u32_ne_zero, List.length_cons, List.length_nil, Nat.le_refl, Nat.reduceAdd, Nat.reduceMul, Nat.reduceLeDiff, Int.toNat_zero, Int.toNat_one, wVf_eqb] <;> exact fin _ _ (by simp) (by simp)
  · have d2 : decide ((j : Int) = (i : Int) - 1) = false := by simp; omega
    by_cases h2 : j = 0
    · have d3 : decide (j = 0) = true := by simp [h2]
      have d4 : decide ((i : Int) = (l.length : Int) - 1) = nearB l.length i j := by
        rw [Bool.eq_iff_iff]; simp [nearB]; omega
      simp (disch := first | omega | assumption | exact shr_lt (by assumption) | exact ndiff32 (by assumption) | exact below_lt (by omega) | fail) only [List.getD_cons_zero, List.getD_cons_succ, wBin_lss, wBin_leq, wBin_gtr, wBin_geq, wBin_eql, wBin_neq, wIf_bool, wGuard_true, wGuard_false, wPick_true, wPick_false, wUn_not, wFld_eq, wExt_eq, wPart_one, wPart_agg, wLen_slice, wLen_string, wNew_eq, wNm_eq, dBox_agg, dBox_int, dBox_slice, dBox_string, dBox_bool, dBox_map, dBox_ptr, oneCells, wLd_none, wLd_2, wLd_3, wLd_32, ldP_cells, ldP_rom, cellP_one, getH_same, getH_ne, forceV_eq, forceN_eq, hsK_eq, Option.elim_some, List.getElem?_cons_zero, List.getElem?_cons_succ, Yld.val, decide_true, decide_false, if_true, if_false, Bool.false_eq_true, Nat.zero_add, Nat.add_zero, and_true, true_and, or_false, Bool.not_true, Bool.not_false, and_self, wBin_add64, wBin_sub64, wIdx_slice, wIdx_array, wNilc_eq, Int.toNat_natCast, Nat.mul_one, Nat.zero_mul, wSt_agg, wSt_int, wSt_bool, wSt_string, wSt_slice, wSt_ptr, wSt_map, wSt_func, stP_cells, bit_one, bit_zero, bit_one', bit_zero', wBin_shr32, wBin_and1, wBin_rem2, wBin_andNot32, wBin_or32, wBin_and32, wBin_shl32, u32_eq_zero, u32_ne_zero, List.length_cons, List.length_nil, Nat.le_refl, Nat.reduceAdd, Nat.reduceMul, Nat.reduceLeDiff, Int.toNat_zero, Int.toNat_one, hj', wJoin_eq, d2, d3, d4, hu32, kN, gn, ldP_row hrow, g1, hjl, hbit]
      cases c1 <;> cases c2 <;> simp (disch := first | omega | assumption | exact shr_lt (by assumption) | exact ndiff32 (by assumption) | exact below_lt (by omega) | fail) only [List.getD_cons_zero, List.getD_cons_succ, wBin_lss, wBin_leq, wBin_gtr, wBin_geq, wBin_eql, wBin_neq, wIf_bool, wGuard_true, wGuard_false, wPick_true, wPick_false, wUn_not, wFld_eq, wExt_eq, wPart_one, wPart_agg, wLen_slice, wLen_string, wNew_eq, wNm_eq, dBox_agg, dBox_int, dBox_slice, dBox_string, dBox_bool, dBox_map, dBox_ptr, oneCells, wLd_none, wLd_2, wLd_3, wLd_32, ldP_cells, ldP_rom, cellP_one, getH_same, getH_ne, forceV_eq, forceN_eq, hsK_eq, Option.elim_some, List.getElem?_cons_zero, List.getElem?_cons_succ, Yld.val, decide_true, decide_false, if_true, if_false, Bool.false_eq_true, Nat.zero_add, Nat.add_zero, and_true, true_and, or_false, Bool.not_true, Bool.not_false, and_self, wBin_add64, wBin_sub64, wIdx_slice, wIdx_array, wNilc_eq, Int.toNat_natCast, Nat.mul_one, Nat.zero_mul, wSt_agg, wSt_int, wSt_bool, wSt_string, wSt_slice, wSt_ptr, wSt_map, wSt_func, stP_cells, bit_one, bit_zero, bit_one', bit_zero', wBin_shr32, wBin_and1, wBin_rem2, wBin_andNot32, wBin_or32, wBin_and32, wBin_shl32, u32_eq_zero, u32_ne_zero, List.length_cons, List.length_nil, Nat.le_refl, Nat.reduceAdd, Nat.reduceMul, Nat.reduceLeDiff, Int.toNat_zero, Int.toNat_one, wVf_eqb] <;> exact fin _ _ (by simp) (by simp)
    · have d3 : decide (j = 0) = false := by simp [h2]
      have dn : nearB l.length i j = false := by simp [nearB, h1, h2]
      rw [dn] at fin
      simp (disch := first | omega | assumption | exact shr_lt (by assumption) | exact ndiff32 (by assumption) | exact below_lt (by omega) | fail) only [List.getD_cons_zero, List.getD_cons_succ, wBin_lss, wBin_leq, wBin_gtr, wBin_geq, wBin_eql, wBin_neq, wIf_bool, wGuard_true, wGuard_false, wPick_true, wPick_false, wUn_not, wFld_eq, wExt_eq, wPart_one, wPart_agg, wLen_slice, wLen_string, wNew_eq, wNm_eq, dBox_agg, dBox_int, dBox_slice, dBox_string, dBox_bool, dBox_map, dBox_ptr, oneCells, wLd_none, wLd_2, wLd_3, wLd_32, ldP_cells, ldP_rom, cellP_one, getH_same, getH_ne, forceV_eq, forceN_eq, hsK_eq, Option.elim_some, List.getElem?_cons_zero, List.getElem?_cons_succ, Yld.val, decide_true, decide_false, if_true, if_false, Bool.false_eq_true, Nat.zero_add, Nat.add_zero, and_true, true_and, or_false, Bool.not_true, Bool.not_false, and_self, wBin_add64, wBin_sub64, wIdx_slice, wIdx_array, wNilc_eq, Int.toNat_natCast, Nat.mul_one, Nat.zero_mul, wSt_agg, wSt_int, wSt_bool, wSt_string, wSt_slice, wSt_ptr, wSt_map, wSt_func, stP_cells, bit_one, bit_zero, bit_one', bit_zero', wBin_shr32, wBin_and1, wBin_rem2, wBin_andNot32, wBin_or32, wBin_and32, wBin_shl32, u32_eq_zero, u32_ne_zero, List.length_cons, List.length_nil, Nat.le_refl, Nat.reduceAdd, Nat.reduceMul, Nat.reduceLeDiff, Int.toNat_zero, Int.toNat_one, hj', wJoin_eq, d2, d3, hu32, kN, gn, ldP_row hrow, g1, hjl, hbit]
      cases c1 <;> cases c2 <;> simp (disch := first | omega | assumption | exact shr_lt (by assumption) | exact ndiff32 (by assumption) | exact below_lt (by omega) | fail) only [List.getD_cons_zero, List.getD_cons_succ, wBin_lss, wBin_leq, wBin_gtr, wBin_geq, wBin_eql, wBin_neq, wIf_bool, wGuard_true, wGuard_false, wPick_true, wPick_false, wUn_not, wFld_eq, wExt_eq, wPart_one, wPart_agg, wLen_slice, wLen_string, wNew_eq, wNm_eq, dBox_agg, dBox_int, dBox_slice, dBox_string, dBox_bool, dBox_map, dBox_ptr, oneCells, wLd_none, wLd_2, wLd_3, wLd_32, ldP_cells, ldP_rom, cellP_one, getH_same, getH_ne, forceV_eq, forceN_eq, hsK_eq, Option.elim_some, List.getElem?_cons_zero, List.getElem?_cons_succ, Yld.val, decide_true, decide_false, if_true, if_false, Bool.false_eq_true, Nat.zero_add, Nat.add_zero, and_true, true_and, or_false, Bool.not_true, Bool.not_false, and_self, wBin_add64, wBin_sub64, wIdx_slice, wIdx_array, wNilc_eq, Int.toNat_natCast, Nat.mul_one, Nat.zero_mul, wSt_agg, wSt_int, wSt_bool, wSt_string, wSt_slice, wSt_ptr, wSt_map, wSt_func, stP_cells, bit_one, bit_zero, bit_one', bit_zero', wBin_shr32, wBin_and1, wBin_rem2, wBin_andNot32, wBin_or32, wBin_and32, wBin_shl32, u32_eq_zero, u32_ne_zero, List.length_cons, List.length_nil, Nat.le_refl, Nat.reduceAdd, Nat.reduceMul, Nat.reduceLeDiff, Int.toNat_zero, Int.toNat_one, wVf_eqb] <;> exact fin _ _ (by simp) (by simp)
end Go.Proofs.YtdecggbglnbhlaaGreatDoor
