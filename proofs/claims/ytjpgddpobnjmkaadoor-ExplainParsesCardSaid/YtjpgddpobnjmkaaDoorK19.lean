/-
  Contracts: a string split at its blanks (the reference's split; strings.Split), the index of a string, equal lists of numbers.
-/
import Derived.Test.YtjpgddpobnjmkaaDoorK18
import Derived.Lib.IndexLaws
set_option linter.unusedSimpArgs false
set_option linter.unusedVariables false
set_option linter.unusedSectionVars false
namespace Go.Proofs.YtjpgddpobnjmkaaDoor
open Go.Clo

def mkB (l : List UInt8) : ByteArray := ⟨l.toArray⟩
theorem mkB_data (l : List UInt8) : (mkB l).data.toList = l := by simp [mkB]
theorem mkB_of (s : ByteArray) : mkB s.data.toList = s := by cases s; simp [mkB]
theorem mkB_size (l : List UInt8) : (mkB l).size = l.length := by simp [mkB, ByteArray.size]
theorem data_size (s : ByteArray) : s.data.toList.length = s.size := by rw [Array.length_toList]; rfl
theorem extract_mk (s : ByteArray) (a b : Nat) : s.extract a b = mkB ((s.data.toList.drop a).take (b - a)) := by
  apply bytes_eq
  rw [ByteArray.toList_eq, ByteArray.toList_eq, mkB_data, ByteArray.data_extract, Array.toList_extract]

/-- The parts between the blanks. -/
def splitL : List UInt8 → List (List UInt8)
  | [] => [[]]
  | c :: r => if c = 32 then [] :: splitL r else match splitL r with
    | [] => [[c]]
    | h :: t => (c :: h) :: t
theorem splitL_at {post : List UInt8} : ∀ {pre : List UInt8}, (∀ c ∈ pre, c ≠ 32) → splitL (pre ++ 32 :: post) = pre :: splitL post
  | [], _ => by simp [splitL]
  | c :: r, h => by
    rw [List.cons_append, splitL, if_neg (h c (by simp)), splitL_at (pre := r) (fun x hx => h x (List.mem_cons_of_mem _ hx))]
theorem splitL_last : ∀ {l : List UInt8}, (∀ c ∈ l, c ≠ 32) → splitL l = [l]
  | [], _ => rfl
  | c :: r, h => by rw [splitL, if_neg (h c (by simp)), splitL_last (l := r) (fun x hx => h x (List.mem_cons_of_mem _ hx))]
theorem splitL_length : ∀ l : List UInt8, (splitL l).length = l.count 32 + 1
  | [] => rfl
  | c :: r => by
    rw [splitL]
    by_cases h : c = 32
    · rw [if_pos h, List.length_cons, splitL_length r, h, List.count_cons_self]
    · rw [if_neg h, List.count_cons_of_ne h]
      have := splitL_length r
      cases hr : splitL r with
      | nil => rw [hr] at this; simp at this
      | cons x t => rw [hr] at this; simpa using this
def splitS (s : ByteArray) : List ByteArray := (splitL s.data.toList).map mkB
theorem splitS_length (s : ByteArray) : (splitS s).length = s.data.toList.count 32 + 1 := by rw [splitS, List.length_map, splitL_length]
theorem splitS_pos (s : ByteArray) : 0 < (splitS s).length := by rw [splitS_length]; omega

theorem wVf_cut {s : ByteArray} {a b : Nat} (ha : a ≤ b) (hb : b ≤ s.size) (k : VP) : wVf (.ssl true true) [.string s, .int .i64 (a : Int), .int .i64 (b : Int)] k = k (.string (s.extract a b)) := by
  have e : VF.ev (.ssl true true) [.string s, .int .i64 (a : Int), .int .i64 (b : Int)] = some (.string (s.extract a b)) := by
    show sslV s (some (.int .i64 (a : Int))) (some (.int .i64 (b : Int))) = _
    simp only [sslV, boundA_nat hb, boundA_nat ha]
  unfold wVf
  rw [e, optK_eq]; rfl
theorem wVf_drop {s : ByteArray} {a : Nat} (ha : a ≤ s.size) (k : VP) : wVf (.ssl true false) [.string s, .int .i64 (a : Int)] k = k (.string (s.extract a s.size)) := by
  have e : VF.ev (.ssl true false) [.string s, .int .i64 (a : Int)] = some (.string (s.extract a s.size)) := by
    show sslV s (some (.int .i64 (a : Int))) none = _
    simp only [sslV, boundA_nat ha]
  unfold wVf
  rw [e, optK_eq]; rfl
theorem wVf_min {x y : Int} (h : x ≤ y) (k : VP) : wVf (.mm false) [.int .i64 x, .int .i64 y] k = k (.int .i64 x) := by
  have e : VF.ev (.mm false) [.int .i64 x, .int .i64 y] = some (.int .i64 x) := by
    show some (Value.int .i64 (if y < x then y else x)) = _
    rw [if_neg (by omega)]
  unfold wVf
  rw [e, optK_eq]; rfl
theorem dMsl_strs {n : Nat} (h : n ≤ 1000000) (z : ByteArray) (k : List Value → Nat → Nat → Prop) : dMsl (.int .i64 (n : Int)) (.int .i64 (n : Int)) [.string z] k = k (strs (List.replicate n z)) n n := by
  show (cond (Nat.ble n n && Nat.ble n 1000000) (Go.Clo.spine (repeatA [.string z] n) fun cs => k cs n n) False) = _
  rw [bltrue (Nat.le_refl n), bltrue h, repeatA_strs]
  exact spine_eq _ _

theorem cut_none {l : List UInt8} {f i : Nat} (hf : f ≤ i) (h : ∀ (j : Nat) (c : UInt8), f ≤ j → j < i → l[j]? = some c → c ≠ 32) : ∀ c ∈ (l.drop f).take (i - f), c ≠ 32 := fun c hc => by
  obtain ⟨j, hj⟩ := List.mem_iff_getElem?.1 hc
  rw [List.getElem?_take] at hj
  split at hj
  · rw [List.getElem?_drop] at hj
    exact h (f + j) c (by omega) (by omega) hj
  · cases hj
theorem drop_at {l : List UInt8} {f i : Nat} (hf : f ≤ i) {c : UInt8} (hc : l[i]? = some c) : l.drop f = (l.drop f).take (i - f) ++ c :: l.drop (i + 1) := by
  have h1 : l.drop i = c :: l.drop (i + 1) := by
    obtain ⟨h, rfl⟩ := List.getElem?_eq_some_iff.1 hc
    exact List.drop_eq_getElem_cons h
  rw [← h1]
  have h2 : l.drop i = (l.drop f).drop (i - f) := by rw [List.drop_drop]; congr 1; omega
  rw [h2, List.take_append_drop]

set_option maxHeartbeats 1000000 in
theorem split25 (s : ByteArray) (H : Heap) (nx : Nat) (hs : s.size ≤ 100000) : Ans Tryd.prog 25 [.string s] H nx fun r H' nx' => AccL nx H' nx' r (strs (splitS s)) ∧ Ext H nx H' nx' := by
  refine spec25 ?_
  unfold F25
  have hlen := data_size s
  refine wLoop_rule (fun m L H' nx' => ∃ (i f : Nat) (v : Value) (zl : List (List UInt8)), m + i = s.size + 1 ∧ L = [v, .int .i64 (f : Int), .int .i64 (i : Int)] ∧ f ≤ i ∧ zl.length ≤ i ∧ AccL nx H' nx' v (strs (zl.map mkB)) ∧ Ext H nx H' nx' ∧ (i ≤ s.size → (∀ (j : Nat) (c : UInt8), f ≤ j → j < i → s.data.toList[j]? = some c → c ≠ 32) ∧ splitL s.data.toList = zl ++ splitL (s.data.toList.drop f)) ∧ (i = s.size + 1 → zl = splitL s.data.toList)) ?_ (m := s.size + 1) ⟨0, 0, _, [], by omega, rfl, Nat.le_refl _, by simp, .inl (Acc.nil _ _ _ _), Ext.refl _ _, fun _ => ⟨fun j c _ h => by omega, by simp⟩, fun h => by omega⟩
  rintro m ih L H1 n1 ⟨i, f, v, zl, hm, rfl, hfi, hzi, hacc, hE, hin, hout⟩ hih
  simp (disch := first | omega | assumption | exact shr_lt (by assumption) | exact ndiff32 (by assumption) | exact below_lt (by omega) | fail) only [List.getD_cons_zero, List.getD_cons_succ, wBin_lss, wBin_leq, wBin_gtr, wBin_geq, wBin_eql, wBin_neq, wIf_bool, wGuard_true, wGuard_false, wPick_true, wPick_false, wUn_not, wFld_eq, wExt_eq, wPart_one, wPart_agg, wLen_slice, wLen_string, wNew_eq, wNm_eq, dBox_agg, dBox_int, dBox_slice, dBox_string, dBox_bool, dBox_map, dBox_ptr, oneCells, wLd_none, wLd_2, wLd_3, wLd_32, ldP_cells, ldP_rom, cellP_one, getH_same, getH_ne, forceV_eq, forceN_eq, hsK_eq, Option.elim_some, List.getElem?_cons_zero, List.getElem?_cons_succ, Yld.val, decide_true, decide_false, if_true, if_false, Bool.false_eq_true, Nat.zero_add, Nat.add_zero, and_true, true_and, or_false, Bool.not_true, Bool.not_false, and_self, wBin_add64, wBin_sub64, wIdx_slice, wIdx_array, wNilc_eq, Int.toNat_natCast, Nat.mul_one, Nat.zero_mul, wSt_agg, wSt_int, wSt_bool, wSt_string, wSt_slice, wSt_ptr, wSt_map, wSt_func, stP_cells, bit_one, bit_zero, bit_one', bit_zero', wBin_shr32, wBin_and1, wBin_rem2, wBin_andNot32, wBin_or32, wBin_and32, wBin_shl32, u32_eq_zero, u32_ne_zero, List.length_cons, List.length_nil, Nat.le_refl, Nat.reduceAdd, Nat.reduceMul, Nat.reduceLeDiff, Int.toNat_zero, Int.toNat_one]
  by_cases hi : i ≤ s.size
  · have hi' : (i : Int) ≤ (s.size : Int) := by omega
    obtain ⟨hno, hsp⟩ := hin hi
    have add : ∀ K : EP, (∀ v' H', AccL nx H' (n1 + 2) v' (strs ((zl ++ [(s.data.toList.drop f).take (i - f)]).map mkB)) → Ext H nx H' (n1 + 2) → K v' H' (n1 + 2)) →
        wApp v (.slice (some ⟨n1, 0, none⟩) 1 1) 1 16 (Go.Clo.hs H1 n1 (some (.cells [.string (s.extract f i)] 0))) (n1 + 1) K := fun K hK => by
      refine wApp_accL (hacc.ext ((Ext.refl H1 n1).new _ (Nat.le_refl _) (by omega))) (src_new (getH_same _ _ _) rfl (by omega)) rfl (by omega) (by rw [strs_length, List.length_map]; omega) (hE.new _ hE.le (by omega)) (by have := hE.le; omega) ?_
      intro v' H' hacc' hE' _
      exact hK v' H' (by rw [extract_mk] at hacc'; simpa [strs] using hacc') hE'
    by_cases hie : i = s.size
    · have d : decide ((i : Int) = (s.size : Int)) = true := by simp; omega
      simp (disch := first | omega | assumption | exact shr_lt (by assumption) | exact ndiff32 (by assumption) | exact below_lt (by omega) | fail) only [List.getD_cons_zero, List.getD_cons_succ, wBin_lss, wBin_leq, wBin_gtr, wBin_geq, wBin_eql, wBin_neq, wIf_bool, wGuard_true, wGuard_false, wPick_true, wPick_false, wUn_not, wFld_eq, wExt_eq, wPart_one, wPart_agg, wLen_slice, wLen_string, wNew_eq, wNm_eq, dBox_agg, dBox_int, dBox_slice, dBox_string, dBox_bool, dBox_map, dBox_ptr, oneCells, wLd_none, wLd_2, wLd_3, wLd_32, ldP_cells, ldP_rom, cellP_one, getH_same, getH_ne, forceV_eq, forceN_eq, hsK_eq, Option.elim_some, List.getElem?_cons_zero, List.getElem?_cons_succ, Yld.val, decide_true, decide_false, if_true, if_false, Bool.false_eq_true, Nat.zero_add, Nat.add_zero, and_true, true_and, or_false, Bool.not_true, Bool.not_false, and_self, wBin_add64, wBin_sub64, wIdx_slice, wIdx_array, wNilc_eq, Int.toNat_natCast, Nat.mul_one, Nat.zero_mul, wSt_agg, wSt_int, wSt_bool, wSt_string, wSt_slice, wSt_ptr, wSt_map, wSt_func, stP_cells, bit_one, bit_zero, bit_one', bit_zero', wBin_shr32, wBin_and1, wBin_rem2, wBin_andNot32, wBin_or32, wBin_and32, wBin_shl32, u32_eq_zero, u32_ne_zero, List.length_cons, List.length_nil, Nat.le_refl, Nat.reduceAdd, Nat.reduceMul, Nat.reduceLeDiff, Int.toNat_zero, Int.toNat_one, wJoin_eq, hi', d, wVf_cut hfi hi, dBsl_str]
      refine add _ fun v' H' hacc' hE' => ?_
      refine hih (m - 1) _ _ _ (by omega) ⟨i + 1, i + 1, v', _, by omega, by simp, Nat.le_refl _, by simp; omega, hacc', hE', fun h => by omega, fun _ => ?_⟩
      rw [hsp, splitL_last (l := s.data.toList.drop f) (fun c hc => by
        have := cut_none hfi hno c
        rw [List.take_of_length_le (by rw [List.length_drop]; omega)] at this
        exact this hc), List.take_of_length_le (by rw [List.length_drop]; omega)]
    · have d : decide ((i : Int) = (s.size : Int)) = false := by simp; omega
      obtain ⟨c, hc⟩ := byte_at (s := s) (i := i) (by omega)
      have ec := fun k => wVf_sidx hc .i64 k
      rw [byte_list] at hc
      by_cases h32 : c = 32
      · have d2 : decide ((c.toNat : Int) = 32) = true := by rw [h32]; rfl
        simp (disch := first | omega | assumption | exact shr_lt (by assumption) | exact ndiff32 (by assumption) | exact below_lt (by omega) | fail) only [List.getD_cons_zero, List.getD_cons_succ, wBin_lss, wBin_leq, wBin_gtr, wBin_geq, wBin_eql, wBin_neq, wIf_bool, wGuard_true, wGuard_false, wPick_true, wPick_false, wUn_not, wFld_eq, wExt_eq, wPart_one, wPart_agg, wLen_slice, wLen_string, wNew_eq, wNm_eq, dBox_agg, dBox_int, dBox_slice, dBox_string, dBox_bool, dBox_map, dBox_ptr, oneCells, wLd_none, wLd_2, wLd_3, wLd_32, ldP_cells, ldP_rom, cellP_one, getH_same, getH_ne, forceV_eq, forceN_eq, hsK_eq, Option.elim_some, List.getElem?_cons_zero, List.getElem?_cons_succ, Yld.val, decide_true, decide_false, if_true, if_false, Bool.false_eq_true, Nat.zero_add, Nat.add_zero, and_true, true_and, or_false, Bool.not_true, Bool.not_false, and_self, wBin_add64, wBin_sub64, wIdx_slice, wIdx_array, wNilc_eq, Int.toNat_natCast, Nat.mul_one, Nat.zero_mul, wSt_agg, wSt_int, wSt_bool, wSt_string, wSt_slice, wSt_ptr, wSt_map, wSt_func, stP_cells, bit_one, bit_zero, bit_one', bit_zero', wBin_shr32, wBin_and1, wBin_rem2, wBin_andNot32, wBin_or32, wBin_and32, wBin_shl32, u32_eq_zero, u32_ne_zero, List.length_cons, List.length_nil, Nat.le_refl, Nat.reduceAdd, Nat.reduceMul, Nat.reduceLeDiff, Int.toNat_zero, Int.toNat_one, wJoin_eq, hi', d, ec, d2, wVf_cut hfi hi, dBsl_str]
        refine add _ fun v' H' hacc' hE' => ?_
        refine hih (m - 1) _ _ _ (by omega) ⟨i + 1, i + 1, v', _, by omega, by simp, Nat.le_refl _, by simp; omega, hacc', hE', fun h => ⟨fun j c _ h => by omega, ?_⟩, fun h => by omega⟩
        have e0 := drop_at hfi hc
        rw [h32] at e0
        have e1 := (congrArg splitL e0).trans (splitL_at (cut_none hfi hno))
        rw [hsp, e1]
        simp
      · have d2 : decide ((c.toNat : Int) = 32) = false := by
          simp
          intro h
          exact h32 (UInt8.toNat_inj.1 (by have : (32 : UInt8).toNat = 32 := rfl; omega))
        simp (disch := first | omega | assumption | exact shr_lt (by assumption) | exact ndiff32 (by assumption) | exact below_lt (by omega) | fail) only [List.getD_cons_zero, List.getD_cons_succ, wBin_lss, wBin_leq, wBin_gtr, wBin_geq, wBin_eql, wBin_neq, wIf_bool, wGuard_true, wGuard_false, wPick_true, wPick_false, wUn_not, wFld_eq, wExt_eq, wPart_one, wPart_agg, wLen_slice, wLen_string, wNew_eq, wNm_eq, dBox_agg, dBox_int, dBox_slice, dBox_string, dBox_bool, dBox_map, dBox_ptr, oneCells, wLd_none, wLd_2, wLd_3, wLd_32, ldP_cells, ldP_rom, cellP_one, getH_same, getH_ne, forceV_eq, forceN_eq, hsK_eq, Option.elim_some, List.getElem?_cons_zero, List.getElem?_cons_succ, Yld.val, decide_true, decide_false, if_true, if_false, Bool.false_eq_true, Nat.zero_add, Nat.add_zero, and_true, true_and, or_false, Bool.not_true, Bool.not_false, and_self, wBin_add64, wBin_sub64, wIdx_slice, wIdx_array, wNilc_eq, Int.toNat_natCast, Nat.mul_one, Nat.zero_mul, wSt_agg, wSt_int, wSt_bool, wSt_string, wSt_slice, wSt_ptr, wSt_map, wSt_func, stP_cells, bit_one, bit_zero, bit_one', bit_zero', wBin_shr32, wBin_and1, wBin_rem2, wBin_andNot32, wBin_or32, wBin_and32, wBin_shl32, u32_eq_zero, u32_ne_zero, List.length_cons, List.length_nil, Nat.le_refl, Nat.reduceAdd, Nat.reduceMul, Nat.reduceLeDiff, Int.toNat_zero, Int.toNat_one, wJoin_eq, hi', d, ec, d2]
        refine hih (m - 1) _ _ _ (by omega) ⟨i + 1, f, v, zl, by omega, by simp, by omega, by omega, hacc, hE, fun h => ⟨fun j c' h1 h2 hj => ?_, hsp⟩, fun h => by omega⟩
        by_cases hji : j = i
        · subst hji; rw [hc] at hj; cases hj; exact h32
        · exact hno j c' h1 (by omega) hj
  · have hi' : ¬ (i : Int) ≤ (s.size : Int) := by omega
    simp (disch := first | omega | assumption | exact shr_lt (by assumption) | exact ndiff32 (by assumption) | exact below_lt (by omega) | fail) only [List.getD_cons_zero, List.getD_cons_succ, wBin_lss, wBin_leq, wBin_gtr, wBin_geq, wBin_eql, wBin_neq, wIf_bool, wGuard_true, wGuard_false, wPick_true, wPick_false, wUn_not, wFld_eq, wExt_eq, wPart_one, wPart_agg, wLen_slice, wLen_string, wNew_eq, wNm_eq, dBox_agg, dBox_int, dBox_slice, dBox_string, dBox_bool, dBox_map, dBox_ptr, oneCells, wLd_none, wLd_2, wLd_3, wLd_32, ldP_cells, ldP_rom, cellP_one, getH_same, getH_ne, forceV_eq, forceN_eq, hsK_eq, Option.elim_some, List.getElem?_cons_zero, List.getElem?_cons_succ, Yld.val, decide_true, decide_false, if_true, if_false, Bool.false_eq_true, Nat.zero_add, Nat.add_zero, and_true, true_and, or_false, Bool.not_true, Bool.not_false, and_self, wBin_add64, wBin_sub64, wIdx_slice, wIdx_array, wNilc_eq, Int.toNat_natCast, Nat.mul_one, Nat.zero_mul, wSt_agg, wSt_int, wSt_bool, wSt_string, wSt_slice, wSt_ptr, wSt_map, wSt_func, stP_cells, bit_one, bit_zero, bit_one', bit_zero', wBin_shr32, wBin_and1, wBin_rem2, wBin_andNot32, wBin_or32, wBin_and32, wBin_shl32, u32_eq_zero, u32_ne_zero, List.length_cons, List.length_nil, Nat.le_refl, Nat.reduceAdd, Nat.reduceMul, Nat.reduceLeDiff, Int.toNat_zero, Int.toNat_one, hi']
    have := hout (by omega)
    subst this
    exact ⟨hacc, hE⟩
end Go.Proofs.YtjpgddpobnjmkaaDoor
