/-
  Plain: elimination, with no program in sight.
  Contract: the reference's Bags.
  Plain: what the program's elimination keeps, step by step.
-/
import Derived.Test.YtaieijjfabbfeaaTB
import Derived.Test.YtaieijjfabbfeaaTA
set_option linter.unusedSimpArgs false
set_option linter.unusedVariables false
set_option linter.unusedSectionVars false
namespace Go.Proofs.Ytaieijjfabbfeaa
open Go.Clo

theorem maskOf_congr {p q : Nat → Bool} {n : Nat} (h : ∀ w, w < n → p w = q w) : maskOf p n = maskOf q n := by
  apply Nat.eq_of_testBit_eq
  intro i
  rw [maskOf_bit, maskOf_bit]
  by_cases hi : i < n
  · rw [h i hi]
  · simp [hi]
theorem maskOf_or {p : Nat → Bool} {n b : Nat} (hb : b < n) : maskOf p n ||| 2 ^ b = maskOf (fun w => p w || decide (w = b)) n := by
  apply Nat.eq_of_testBit_eq
  intro i
  rw [Nat.testBit_or, maskOf_bit, maskOf_bit, Nat.testBit_two_pow]
  by_cases hi : i = b
  · subst hi; simp [hb]
  · have h1 : decide (b = i) = false := by simp; omega
    simp [hi, h1]
theorem maskOf_add {p : Nat → Bool} {b : Nat} (h : p b = false) : ∀ {n : Nat}, b < n → maskOf p n + 2 ^ b = maskOf (fun w => p w || decide (w = b)) n
  | 0, hb => by omega
  | n + 1, hb => by
    by_cases hbn : b = n
    · subst hbn
      have e : maskOf p b = maskOf (fun w => p w || decide (w = b)) b := maskOf_congr fun w hw => by
        have : decide (w = b) = false := by simp; omega
        simp [this]
      simp [maskOf, h, e]
    · have ih := maskOf_add (p := p) (b := b) h (n := n) (by omega)
      have hd : decide (n = b) = false := by simp; omega
      simp only [maskOf, hd, Bool.or_false]
      split <;> omega

abbrev Nb := Nat → Nat → Bool
/-- The later neighbors of v. -/
def keyB (N : Nb) (v : Nat) (rest : List Nat) (w : Nat) : Bool := N v w && decide (w ∈ rest)
def stepN (N : Nb) (v : Nat) (rest : List Nat) : Nb := fun a b => N a b || (decide (a ≠ b) && (keyB N v rest a && keyB N v rest b))
def parB (N : Nb) (v : Nat) (rest : List Nat) : Int := match rest.find? (N v) with
  | some w => (w : Int)
  | none => -1
def bagOf (n : Nat) (N : Nb) (v : Nat) (rest : List Nat) : Bag := ⟨v, maskOf (keyB N v rest) n, parB N v rest⟩
def outs (n : Nat) : List Bag → Nb → List Nat → List Bag
  | out, _, [] => out
  | out, N, v :: rest => outs n (out.set v (bagOf n N v rest)) (stepN N v rest) rest

theorem key_cons {N : Nb} {v x n : Nat} {rest : List Nat} (hx : x < n) (hr : x ∉ rest) : maskOf (keyB N v (x :: rest)) n = if N v x then maskOf (keyB N v rest) n + 2 ^ x else maskOf (keyB N v rest) n := by
  split
  · rename_i h
    rw [maskOf_add (by simp [keyB, hr]) hx]
    refine maskOf_congr fun w _ => ?_
    simp only [keyB, List.mem_cons]
    by_cases hw : w = x
    · subst hw; simp [h]
    · simp [hw]
  · rename_i h
    refine maskOf_congr fun w _ => ?_
    simp only [keyB, List.mem_cons]
    by_cases hw : w = x
    · subst hw; simp [h]
    · simp [hw]
theorem par_cons {N : Nb} {v x : Nat} {rest : List Nat} : parB N v (x :: rest) = if N v x then (x : Int) else parB N v rest := by
  unfold parB
  rw [List.find?_cons]
  cases N v x <;> simp
theorem outs_len (n : Nat) : ∀ (order : List Nat) (out : List Bag) (N : Nb), (outs n out N order).length = out.length
  | [], _, _ => rfl
  | v :: rest, out, N => by rw [outs, outs_len n rest]; simp
end Go.Proofs.Ytaieijjfabbfeaa

set_option linter.unusedSimpArgs false
set_option linter.unusedVariables false
set_option linter.unusedSectionVars false
namespace Go.Proofs.Ytaieijjfabbfeaa
open Go.Clo

theorem maskOf32 {n : Nat} (hn : n ≤ 32) (p : Nat → Bool) : maskOf p n < 4294967296 :=
  Nat.lt_of_lt_of_le (maskOf_lt p n) (Nat.le_trans (Nat.pow_le_pow_right (by omega) hn) (by decide))
theorem dMsl_eq {n : Nat} (hn : n ≤ 1000000) (z : List Value) (k : List Value → Nat → Nat → Prop) : dMsl (.int .i64 (n : Int)) (.int .i64 (n : Int)) z k = k (repeatA z n) n n := by
  show cond (Nat.ble n n && Nat.ble n 1000000) (spine (repeatA z n) fun cs => k cs n n) False = _
  rw [bltrue (Nat.le_refl n), bltrue hn, spine_eq]; rfl
theorem repeat_u32 : ∀ n : Nat, repeatA [.int .u32 0] n = u32s (List.replicate n 0)
  | 0 => rfl
  | n + 1 => by rw [repeatA, repeat_u32 n]; rfl
def zeroBag : Bag := ⟨0, 0, 0⟩
theorem repeat_bag : ∀ n : Nat, repeatA [.int .i64 0, .int .u32 0, .int .i64 0] n = bagsC (List.replicate n zeroBag)
  | 0 => rfl
  | n + 1 => by rw [repeatA, repeat_bag n]; rfl
theorem bagsC_set {b : Bag} : ∀ {bs : List Bag} {v : Nat}, v < bs.length → putL (bagsC bs) (v * 3) (bagC b) = bagsC (bs.set v b)
  | [], v, h => by simp at h
  | c :: bs, 0, h => by simp [bagsC, putL, bagC]
  | c :: bs, v + 1, h => by
    have ih := bagsC_set (b := b) (bs := bs) (v := v) (by simpa using h)
    have e1 : bagsC (c :: bs) = bagC c ++ bagsC bs := rfl
    have e2 : bagsC ((c :: bs).set (v + 1) b) = bagC c ++ bagsC (bs.set v b) := rfl
    have e3 : (v + 1) * 3 = 3 + v * 3 := by omega
    rw [e1, e2, ← ih, e3]
    unfold putL
    have hc : (bagC c).length = 3 := rfl
    rw [List.take_append, List.drop_append, hc, List.take_of_length_le (by rw [hc]; omega), List.drop_eq_nil_of_le (by rw [hc]; omega)]
    have a1 : 3 + v * 3 - 3 = v * 3 := by omega
    have a2 : 3 + v * 3 + (bagC b).length - 3 = v * 3 + (bagC b).length := by omega
    rw [a1, a2]
    simp

structure M16 (K : Heap) (a o : Nat) (near : List Nat) (out : List Bag) (H : Heap) : Prop where
  near : getH H a = some (.cells (u32s near) 0)
  out : getH H o = some (.cells (bagsC out) 0)
  same : ∀ q, q ≠ a → q ≠ o → getH H q = getH K q
theorem M16.setNear {K : Heap} {a o : Nat} {near : List Nat} {out : List Bag} {H : Heap} (h : M16 K a o near out H) (hao : a ≠ o) (l : List Nat) : M16 K a o l out (hs H a (some (.cells (u32s l) 0))) :=
  ⟨getH_same _ _ _, by rw [getH_ne _ (by omega)]; exact h.out, fun q h1 h2 => by rw [getH_ne _ h1]; exact h.same q h1 h2⟩
theorem M16.setOut {K : Heap} {a o : Nat} {near : List Nat} {out : List Bag} {H : Heap} (h : M16 K a o near out H) (hao : a ≠ o) (l : List Bag) : M16 K a o near l (hs H o (some (.cells (bagsC l) 0))) :=
  ⟨by rw [getH_ne _ hao]; exact h.near, getH_same _ _ _, fun q h1 h2 => by rw [getH_ne _ h2]; exact h.same q h1 h2⟩

theorem key_nil (N : Nb) (v n : Nat) : maskOf (keyB N v []) n = 0 := by
  apply Nat.eq_of_testBit_eq; intro i; rw [maskOf_bit]; simp [keyB]

theorem drop_get {α : Type} {l : List α} {i : Nat} {x : α} (h : l[i]? = some x) : l.drop i = x :: l.drop (i + 1) := by
  have hi := lt_len h
  rw [List.drop_eq_getElem_cons hi]
  congr 1
  exact (List.getElem?_eq_some_iff.mp h).2
theorem not_mem_drop {l : List Nat} {i x : Nat} (hnd : l.Nodup) (h : l[i]? = some x) : x ∉ l.drop (i + 1) := by
  have h1 : (l.drop i).Nodup := hnd.sublist (List.drop_sublist _ _)
  rw [drop_get h] at h1
  exact (List.nodup_cons.mp h1).1

/-- Whether the step joins p and w. -/
def updB (N : Nb) (v : Nat) (rest : List Nat) (p w : Nat) : Bool := decide (p ≠ w) && (keyB N v rest p && keyB N v rest w)
def rowQ (N : Nb) (v : Nat) (rest : List Nat) (p q : Nat) : Nat → Bool := fun w => N p w || (decide (w < q) && updB N v rest p w)
theorem rowQ_zero (N : Nb) (v : Nat) (rest : List Nat) (p : Nat) : rowQ N v rest p 0 = N p := by funext w; simp [rowQ]
theorem rowQ_all (N : Nb) (v : Nat) (rest : List Nat) (p n : Nat) : maskOf (rowQ N v rest p n) n = maskOf (stepN N v rest p) n :=
  maskOf_congr fun w hw => by simp [rowQ, hw, stepN, updB]
theorem rowQ_skip {N : Nb} {v : Nat} {rest : List Nat} {p q : Nat} (h : updB N v rest p q = false) : rowQ N v rest p q = rowQ N v rest p (q + 1) := by
  funext w
  unfold rowQ
  by_cases hw : w = q
  · subst hw; simp [h]
  · have : decide (w < q + 1) = decide (w < q) := by congr 1; apply propext; omega
    rw [this]
theorem rowQ_set {N : Nb} {v : Nat} {rest : List Nat} {p q n : Nat} (h : updB N v rest p q = true) (hq : q < n) : maskOf (rowQ N v rest p q) n ||| 2 ^ q = maskOf (rowQ N v rest p (q + 1)) n := by
  rw [maskOf_or hq]
  refine maskOf_congr fun w _ => ?_
  unfold rowQ
  by_cases hw : w = q
  · subst hw; simp [h]
  · have : decide (w < q + 1) = decide (w < q) := by congr 1; apply propext; omega
    rw [this]; simp [hw]

set_option maxHeartbeats 4000000 in
theorem bags16 {n f : Nat} (hn : n ≤ 32) (hf : f ≤ 32) (A : Option Addr) (es : List Nat) (cap : Nat) (P : Option Addr) (l : List Int) (capP : Nat) (order : List Nat) (H : Heap) (nx : Nat) (hS : Sl H nx A (u32s es)) (hsm : Small es) (hle : es.length ≤ 64)
    (hP : Sl H nx P (i64s l)) (hP0 : Has H nx P) (hl : l.length ≤ 40) (hord : l ++ downTo f f = order.map fun (w : Nat) => (w : Int)) (hnd : order.Nodup) (hlt : ∀ w ∈ order, w < n) (hlen : order.length = n) :
    Ans Try.prog 16 [gv n A es.length cap, .int .i64 (f : Int), .slice P l.length capP] H nx fun r H' nx' => (∃ R capR, r = .slice R n capR ∧ Sl H' nx' R (bagsC (outs n (List.replicate n zeroBag) (adj es) order))) ∧ Ext H nx H' nx' := by
  refine spec16 ?_
  unfold F16
  have hE1 : Ext H nx (hs H nx (some (.cells [.int .i64 n, .slice A es.length cap] 0))) (nx + 1) := (Ext.refl H nx).new _ (Nat.le_refl _) (by omega)
  have hn6 : n ≤ 1000000 := by omega
  simp (disch := first | omega | assumption | exact shr_lt (by assumption) | exact ndiff32 (by assumption) | exact below_lt (by omega) | fail) only [List.getD_cons_zero, List.getD_cons_succ, wBin_lss, wBin_leq, wBin_gtr, wBin_geq, wBin_eql, wBin_neq, wIf_bool, wGuard_true, wGuard_false, wPick_true, wPick_false, wUn_not, wFld_eq, wExt_eq, wPart_one, wPart_agg, wLen_slice, wLen_string, wNew_eq, wNm_eq, dBox_agg, dBox_int, dBox_slice, dBox_string, dBox_bool, dBox_map, dBox_ptr, oneCells, wLd_none, wLd_2, wLd_3, wLd_32, ldP_cells, ldP_rom, cellP_one, getH_same, getH_ne, forceV_eq, forceN_eq, hsK_eq, Option.elim_some, List.getElem?_cons_zero, List.getElem?_cons_succ, Yld.val, decide_true, decide_false, if_true, if_false, Bool.false_eq_true, Nat.zero_add, Nat.add_zero, and_true, true_and, or_false, Bool.not_true, Bool.not_false, and_self, wBin_add64, wBin_sub64, wIdx_slice, wIdx_array, wNilc_eq, Int.toNat_natCast, Nat.mul_one, Nat.zero_mul, wSt_agg, wSt_int, wSt_bool, wSt_string, wSt_slice, wSt_ptr, wSt_map, wSt_func, stP_cells, bit_one, bit_zero, bit_one', bit_zero', wBin_shr32, wBin_and1, wBin_rem2, wBin_andNot32, wBin_or32, wBin_and32, wBin_shl32, u32_eq_zero, u32_ne_zero, List.length_cons, List.length_nil, Nat.le_refl, Nat.reduceAdd, Nat.reduceMul, Nat.reduceLeDiff, Int.toNat_zero, Int.toNat_one, dMsl_eq hn6, repeat_u32, repeat_bag]
  generalize hK : hs (hs H nx (some (.cells [.int .i64 n, .slice A es.length cap] 0))) (nx + 1) (some (.cells (u32s (List.replicate n 0)) 0)) = K
  have kG : getH K nx = some (.cells [.int .i64 n, .slice A es.length cap] 0) := by rw [← hK, getH_ne _ (by omega), getH_same]
  have kA : getH K (nx + 1) = some (.cells (u32s (List.replicate n 0)) 0) := by rw [← hK, getH_same]
  have hEK : Ext H nx K (nx + 1) := by rw [← hK]; exact hE1.hs (by omega)
  refine wLoop_rule (m := n) (fun m L H' nx' => ∃ (i : Nat) (l : List Nat), m + i = n ∧ L = [.int .i64 (i : Int)] ∧ l.length = n ∧ (∀ v, v < n → l[v]? = some (if v < i then maskOf (adj es v) n else 0)) ∧
    getH H' (nx + 1) = some (.cells (u32s l) 0) ∧ Ext K (nx + 1) H' nx' ∧ nx + 2 ≤ nx') ?_ ⟨0, List.replicate n 0, rfl, rfl, by simp, fun v hv => by rw [List.getElem?_replicate, if_pos hv]; simp, kA, Ext.self (by omega), Nat.le_refl _⟩
  rintro m ih L H2 nx2 ⟨i, l2, hm, rfl, hl2, hval, hg, hE2, hnx2⟩ hih
  have g2 := (hE2.get nx (by omega)).trans kG
  have hEE2 : Ext H nx H2 nx2 := hEK.trans hE2
  simp (disch := first | omega | assumption | exact shr_lt (by assumption) | exact ndiff32 (by assumption) | exact below_lt (by omega) | fail) only [List.getD_cons_zero, List.getD_cons_succ, wBin_lss, wBin_leq, wBin_gtr, wBin_geq, wBin_eql, wBin_neq, wIf_bool, wGuard_true, wGuard_false, wPick_true, wPick_false, wUn_not, wFld_eq, wExt_eq, wPart_one, wPart_agg, wLen_slice, wLen_string, wNew_eq, wNm_eq, dBox_agg, dBox_int, dBox_slice, dBox_string, dBox_bool, dBox_map, dBox_ptr, oneCells, wLd_none, wLd_2, wLd_3, wLd_32, ldP_cells, ldP_rom, cellP_one, getH_same, getH_ne, forceV_eq, forceN_eq, hsK_eq, Option.elim_some, List.getElem?_cons_zero, List.getElem?_cons_succ, Yld.val, decide_true, decide_false, if_true, if_false, Bool.false_eq_true, Nat.zero_add, Nat.add_zero, and_true, true_and, or_false, Bool.not_true, Bool.not_false, and_self, wBin_add64, wBin_sub64, wIdx_slice, wIdx_array, wNilc_eq, Int.toNat_natCast, Nat.mul_one, Nat.zero_mul, wSt_agg, wSt_int, wSt_bool, wSt_string, wSt_slice, wSt_ptr, wSt_map, wSt_func, stP_cells, bit_one, bit_zero, bit_one', bit_zero', wBin_shr32, wBin_and1, wBin_rem2, wBin_andNot32, wBin_or32, wBin_and32, wBin_shl32, u32_eq_zero, u32_ne_zero, List.length_cons, List.length_nil, Nat.le_refl, Nat.reduceAdd, Nat.reduceMul, Nat.reduceLeDiff, Int.toNat_zero, Int.toNat_one, g2]
  by_cases hi : i < n
  case pos =>
    have hi' : (i : Int) < (n : Int) := by omega
    simp (disch := first | omega | assumption | exact shr_lt (by assumption) | exact ndiff32 (by assumption) | exact below_lt (by omega) | fail) only [List.getD_cons_zero, List.getD_cons_succ, wBin_lss, wBin_leq, wBin_gtr, wBin_geq, wBin_eql, wBin_neq, wIf_bool, wGuard_true, wGuard_false, wPick_true, wPick_false, wUn_not, wFld_eq, wExt_eq, wPart_one, wPart_agg, wLen_slice, wLen_string, wNew_eq, wNm_eq, dBox_agg, dBox_int, dBox_slice, dBox_string, dBox_bool, dBox_map, dBox_ptr, oneCells, wLd_none, wLd_2, wLd_3, wLd_32, ldP_cells, ldP_rom, cellP_one, getH_same, getH_ne, forceV_eq, forceN_eq, hsK_eq, Option.elim_some, List.getElem?_cons_zero, List.getElem?_cons_succ, Yld.val, decide_true, decide_false, if_true, if_false, Bool.false_eq_true, Nat.zero_add, Nat.add_zero, and_true, true_and, or_false, Bool.not_true, Bool.not_false, and_self, wBin_add64, wBin_sub64, wIdx_slice, wIdx_array, wNilc_eq, Int.toNat_natCast, Nat.mul_one, Nat.zero_mul, wSt_agg, wSt_int, wSt_bool, wSt_string, wSt_slice, wSt_ptr, wSt_map, wSt_func, stP_cells, bit_one, bit_zero, bit_one', bit_zero', wBin_shr32, wBin_and1, wBin_rem2, wBin_andNot32, wBin_or32, wBin_and32, wBin_shl32, u32_eq_zero, u32_ne_zero, List.length_cons, List.length_nil, Nat.le_refl, Nat.reduceAdd, Nat.reduceMul, Nat.reduceLeDiff, Int.toNat_zero, Int.toNat_one, hi', g2, cellP_lit2]
    refine wCall_rule (near34 hn A es cap _ _ (hS.ext hEE2) hsm hle) ?_
    rintro _ H3 nx3 ⟨rfl, hE3⟩
    have hg3 := (hE3.get (nx + 1) (by omega)).trans hg
    have hnx3 := hE3.le
    have hjl : i < l2.length := by omega
    have hlen3 : (u32s l2).length = n := by rw [u32s_length]; exact hl2
    simp (disch := first | omega | assumption | exact shr_lt (by assumption) | exact ndiff32 (by assumption) | exact below_lt (by omega) | fail) only [List.getD_cons_zero, List.getD_cons_succ, wBin_lss, wBin_leq, wBin_gtr, wBin_geq, wBin_eql, wBin_neq, wIf_bool, wGuard_true, wGuard_false, wPick_true, wPick_false, wUn_not, wFld_eq, wExt_eq, wPart_one, wPart_agg, wLen_slice, wLen_string, wNew_eq, wNm_eq, dBox_agg, dBox_int, dBox_slice, dBox_string, dBox_bool, dBox_map, dBox_ptr, oneCells, wLd_none, wLd_2, wLd_3, wLd_32, ldP_cells, ldP_rom, cellP_one, getH_same, getH_ne, forceV_eq, forceN_eq, hsK_eq, Option.elim_some, List.getElem?_cons_zero, List.getElem?_cons_succ, Yld.val, decide_true, decide_false, if_true, if_false, Bool.false_eq_true, Nat.zero_add, Nat.add_zero, and_true, true_and, or_false, Bool.not_true, Bool.not_false, and_self, wBin_add64, wBin_sub64, wIdx_slice, wIdx_array, wNilc_eq, Int.toNat_natCast, Nat.mul_one, Nat.zero_mul, wSt_agg, wSt_int, wSt_bool, wSt_string, wSt_slice, wSt_ptr, wSt_map, wSt_func, stP_cells, bit_one, bit_zero, bit_one', bit_zero', wBin_shr32, wBin_and1, wBin_rem2, wBin_andNot32, wBin_or32, wBin_and32, wBin_shl32, u32_eq_zero, u32_ne_zero, List.length_cons, List.length_nil, Nat.le_refl, Nat.reduceAdd, Nat.reduceMul, Nat.reduceLeDiff, Int.toNat_zero, Int.toNat_one, hg3, putL_u32s hjl, hlen3]
    refine ⟨by omega, hih (m - 1) _ _ _ (by omega) ⟨i + 1, l2.set i (maskOf (adj es i) n), by omega, by simp, by rw [List.length_set]; exact hl2, fun v hv => ?_, by rw [getH_same], ((hE2.trans (hE3.less (by omega))).hs (by omega)), by omega⟩⟩
    rw [List.getElem?_set]
    by_cases hvj : i = v
    · subst hvj; rw [if_pos rfl, if_pos (by omega), if_pos (by omega)]
    · rw [if_neg hvj, hval v hv]
      by_cases hvlt : v < i
      · rw [if_pos hvlt, if_pos (by omega)]
      · rw [if_neg hvlt, if_neg (by omega)]
  have hi' : ¬ (i : Int) < (n : Int) := by omega
  have hin : i = n := by omega
  subst hin
  simp (disch := first | omega | assumption | exact shr_lt (by assumption) | exact ndiff32 (by assumption) | exact below_lt (by omega) | fail) only [List.getD_cons_zero, List.getD_cons_succ, wBin_lss, wBin_leq, wBin_gtr, wBin_geq, wBin_eql, wBin_neq, wIf_bool, wGuard_true, wGuard_false, wPick_true, wPick_false, wUn_not, wFld_eq, wExt_eq, wPart_one, wPart_agg, wLen_slice, wLen_string, wNew_eq, wNm_eq, dBox_agg, dBox_int, dBox_slice, dBox_string, dBox_bool, dBox_map, dBox_ptr, oneCells, wLd_none, wLd_2, wLd_3, wLd_32, ldP_cells, ldP_rom, cellP_one, getH_same, getH_ne, forceV_eq, forceN_eq, hsK_eq, Option.elim_some, List.getElem?_cons_zero, List.getElem?_cons_succ, Yld.val, decide_true, decide_false, if_true, if_false, Bool.false_eq_true, Nat.zero_add, Nat.add_zero, and_true, true_and, or_false, Bool.not_true, Bool.not_false, and_self, wBin_add64, wBin_sub64, wIdx_slice, wIdx_array, wNilc_eq, Int.toNat_natCast, Nat.mul_one, Nat.zero_mul, wSt_agg, wSt_int, wSt_bool, wSt_string, wSt_slice, wSt_ptr, wSt_map, wSt_func, stP_cells, bit_one, bit_zero, bit_one', bit_zero', wBin_shr32, wBin_and1, wBin_rem2, wBin_andNot32, wBin_or32, wBin_and32, wBin_shl32, u32_eq_zero, u32_ne_zero, List.length_cons, List.length_nil, Nat.le_refl, Nat.reduceAdd, Nat.reduceMul, Nat.reduceLeDiff, Int.toNat_zero, Int.toNat_one, hi', g2, dMsl_eq hn6, repeat_bag]
  clear hih
  have hE3 : Ext H2 nx2 (hs H2 nx2 (some (.cells (bagsC (List.replicate i zeroBag)) 0))) (nx2 + 1) := (Ext.refl _ _).new _ (Nat.le_refl _) (by omega)
  have hEE3 := hEE2.trans hE3
  refine wCall_rule (order35 hf P l capP _ _ (hP.ext hEE3) (hP0.ext hEE3) hl) ?_
  rintro r H4 nx4 ⟨hAcc, hE4⟩
  have hEE4 := hEE3.trans hE4
  have hnx4 := hE4.le
  have hll : l.length + f = i := by
    have := congrArg List.length hord
    simp [downTo_length] at this; omega
  rw [hord, hll] at hAcc
  have m0 : M16 H4 (nx + 1) nx2 l2 (List.replicate i zeroBag) H4 := by
    refine ⟨?_, ?_, fun _ _ _ => rfl⟩
    · rw [hE4.get (nx + 1) (by omega), getH_ne _ (by omega)]; exact hg
    · rw [hE4.get nx2 (by omega), getH_same]
  have hG4 : getH H4 nx = some (.cells [.int .i64 i, .slice A es.length cap] 0) := by rw [hE4.get nx (by omega), getH_ne _ (by omega)]; exact g2
  have fin : ∀ (out : List Bag) (near : List Nat) (H' : Heap) (nx' : Nat), M16 H4 (nx + 1) nx2 near out H' → out = outs i (List.replicate i zeroBag) (adj es) order → nx4 ≤ nx' →
      (∃ R capR, Value.slice (some ⟨nx2, 0, none⟩) i i = .slice R i capR ∧ Sl H' nx' R (bagsC (outs i (List.replicate i zeroBag) (adj es) order))) ∧ Ext H nx H' nx' := by
    intro out near H' nx' hM ho hx
    refine ⟨⟨_, _, rfl, fun q v hv => ⟨nx2, 0, bagsC out, rfl, by omega, by rw [rowOf, hM.out]; rfl, by rw [Nat.zero_add, ho]; exact hv⟩⟩, ⟨by have := hEE4.le; omega, fun q hq => ?_⟩⟩
    rw [hM.same q (by omega) (by have := hEE2.le; omega)]
    exact hEE4.get q hq
  rcases hAcc with ⟨_, ⟨h0, rfl⟩ | ⟨b, hb1, hb2, rfl, hb4⟩⟩
  · subst h0
    have ho : order = [] := List.length_eq_zero_iff.mp hlen
    subst ho
    refine wLoop_rule (m := 0) (fun m L H' nx' => L = [.int .i64 0] ∧ H4 = H' ∧ nx4 = nx') ?_ ⟨rfl, rfl, rfl⟩
    rintro m ih L _ _ ⟨rfl, rfl, rfl⟩ hih
    have h00 : ¬ (0 : Int) < ((0 : Nat) : Int) := by omega
    simp (disch := first | omega | assumption | exact shr_lt (by assumption) | exact ndiff32 (by assumption) | exact below_lt (by omega) | fail) only [List.getD_cons_zero, List.getD_cons_succ, wBin_lss, wBin_leq, wBin_gtr, wBin_geq, wBin_eql, wBin_neq, wIf_bool, wGuard_true, wGuard_false, wPick_true, wPick_false, wUn_not, wFld_eq, wExt_eq, wPart_one, wPart_agg, wLen_slice, wLen_string, wNew_eq, wNm_eq, dBox_agg, dBox_int, dBox_slice, dBox_string, dBox_bool, dBox_map, dBox_ptr, oneCells, wLd_none, wLd_2, wLd_3, wLd_32, ldP_cells, ldP_rom, cellP_one, getH_same, getH_ne, forceV_eq, forceN_eq, hsK_eq, Option.elim_some, List.getElem?_cons_zero, List.getElem?_cons_succ, Yld.val, decide_true, decide_false, if_true, if_false, Bool.false_eq_true, Nat.zero_add, Nat.add_zero, and_true, true_and, or_false, Bool.not_true, Bool.not_false, and_self, wBin_add64, wBin_sub64, wIdx_slice, wIdx_array, wNilc_eq, Int.toNat_natCast, Nat.mul_one, Nat.zero_mul, wSt_agg, wSt_int, wSt_bool, wSt_string, wSt_slice, wSt_ptr, wSt_map, wSt_func, stP_cells, bit_one, bit_zero, bit_one', bit_zero', wBin_shr32, wBin_and1, wBin_rem2, wBin_andNot32, wBin_or32, wBin_and32, wBin_shl32, u32_eq_zero, u32_ne_zero, List.length_cons, List.length_nil, Nat.le_refl, Nat.reduceAdd, Nat.reduceMul, Nat.reduceLeDiff, Int.toNat_zero, Int.toNat_one, h00]
    exact fin _ _ _ _ m0 rfl (Nat.le_refl _)
  have hget : ∀ (j w : Nat), order[j]? = some w → (i64s (order.map fun (w : Nat) => (w : Int)))[j]? = some (.int .i64 (w : Int)) := fun j w h => i64s_get (by simp [h])
  refine wLoop_rule (m := i) (fun m L H' nx' => ∃ (j : Nat) (near : List Nat) (out : List Bag) (N : Nb), m + j = i ∧ L = [.int .i64 (j : Int)] ∧ M16 H4 (nx + 1) nx2 near out H' ∧ near.length = i ∧ (∀ v, v < i → near[v]? = some (maskOf (N v) i)) ∧ out.length = i ∧
    outs i out N (order.drop j) = outs i (List.replicate i zeroBag) (adj es) order ∧ nx4 ≤ nx') ?_ ⟨0, l2, List.replicate i zeroBag, adj es, rfl, rfl, m0, hl2, fun v hv => by rw [hval v hv, if_pos hv], by simp, rfl, Nat.le_refl _⟩
  rintro m ih L H5 nx5 ⟨j, near, out, N, hm5, rfl, hM, hnl, hnv, hol, hout, hx5⟩ hih
  simp (disch := first | omega | assumption | exact shr_lt (by assumption) | exact ndiff32 (by assumption) | exact below_lt (by omega) | fail) only [List.getD_cons_zero, List.getD_cons_succ, wBin_lss, wBin_leq, wBin_gtr, wBin_geq, wBin_eql, wBin_neq, wIf_bool, wGuard_true, wGuard_false, wPick_true, wPick_false, wUn_not, wFld_eq, wExt_eq, wPart_one, wPart_agg, wLen_slice, wLen_string, wNew_eq, wNm_eq, dBox_agg, dBox_int, dBox_slice, dBox_string, dBox_bool, dBox_map, dBox_ptr, oneCells, wLd_none, wLd_2, wLd_3, wLd_32, ldP_cells, ldP_rom, cellP_one, getH_same, getH_ne, forceV_eq, forceN_eq, hsK_eq, Option.elim_some, List.getElem?_cons_zero, List.getElem?_cons_succ, Yld.val, decide_true, decide_false, if_true, if_false, Bool.false_eq_true, Nat.zero_add, Nat.add_zero, and_true, true_and, or_false, Bool.not_true, Bool.not_false, and_self, wBin_add64, wBin_sub64, wIdx_slice, wIdx_array, wNilc_eq, Int.toNat_natCast, Nat.mul_one, Nat.zero_mul, wSt_agg, wSt_int, wSt_bool, wSt_string, wSt_slice, wSt_ptr, wSt_map, wSt_func, stP_cells, bit_one, bit_zero, bit_one', bit_zero', wBin_shr32, wBin_and1, wBin_rem2, wBin_andNot32, wBin_or32, wBin_and32, wBin_shl32, u32_eq_zero, u32_ne_zero, List.length_cons, List.length_nil, Nat.le_refl, Nat.reduceAdd, Nat.reduceMul, Nat.reduceLeDiff, Int.toNat_zero, Int.toNat_one]
  by_cases hj : j < i
  case neg =>
    have hj' : ¬ (j : Int) < (i : Int) := by omega
    simp (disch := first | omega | assumption | exact shr_lt (by assumption) | exact ndiff32 (by assumption) | exact below_lt (by omega) | fail) only [List.getD_cons_zero, List.getD_cons_succ, wBin_lss, wBin_leq, wBin_gtr, wBin_geq, wBin_eql, wBin_neq, wIf_bool, wGuard_true, wGuard_false, wPick_true, wPick_false, wUn_not, wFld_eq, wExt_eq, wPart_one, wPart_agg, wLen_slice, wLen_string, wNew_eq, wNm_eq, dBox_agg, dBox_int, dBox_slice, dBox_string, dBox_bool, dBox_map, dBox_ptr, oneCells, wLd_none, wLd_2, wLd_3, wLd_32, ldP_cells, ldP_rom, cellP_one, getH_same, getH_ne, forceV_eq, forceN_eq, hsK_eq, Option.elim_some, List.getElem?_cons_zero, List.getElem?_cons_succ, Yld.val, decide_true, decide_false, if_true, if_false, Bool.false_eq_true, Nat.zero_add, Nat.add_zero, and_true, true_and, or_false, Bool.not_true, Bool.not_false, and_self, wBin_add64, wBin_sub64, wIdx_slice, wIdx_array, wNilc_eq, Int.toNat_natCast, Nat.mul_one, Nat.zero_mul, wSt_agg, wSt_int, wSt_bool, wSt_string, wSt_slice, wSt_ptr, wSt_map, wSt_func, stP_cells, bit_one, bit_zero, bit_one', bit_zero', wBin_shr32, wBin_and1, wBin_rem2, wBin_andNot32, wBin_or32, wBin_and32, wBin_shl32, u32_eq_zero, u32_ne_zero, List.length_cons, List.length_nil, Nat.le_refl, Nat.reduceAdd, Nat.reduceMul, Nat.reduceLeDiff, Int.toNat_zero, Int.toNat_one, hj']
    refine fin _ _ _ _ hM ?_ hx5
    rw [List.drop_of_length_le (by omega)] at hout
    exact hout
  have hj' : (j : Int) < (i : Int) := by omega
  obtain ⟨v, hv⟩ : ∃ v, order[j]? = some v := ⟨_, List.getElem?_eq_getElem (by omega)⟩
  have hvn : v < i := hlt v (List.mem_of_getElem? hv)
  have hb5 : getH H5 b = some (.cells (i64s (order.map fun (w : Nat) => (w : Int))) 1) := by rw [hM.same b (by omega) (by omega)]; exact hb4
  have hG5 : getH H5 nx = some (.cells [.int .i64 i, .slice A es.length cap] 0) := by rw [hM.same nx (by omega) (by omega)]; exact hG4
  have gv5 := hget j v hv
  simp (disch := first | omega | assumption | exact shr_lt (by assumption) | exact ndiff32 (by assumption) | exact below_lt (by omega) | fail) only [List.getD_cons_zero, List.getD_cons_succ, wBin_lss, wBin_leq, wBin_gtr, wBin_geq, wBin_eql, wBin_neq, wIf_bool, wGuard_true, wGuard_false, wPick_true, wPick_false, wUn_not, wFld_eq, wExt_eq, wPart_one, wPart_agg, wLen_slice, wLen_string, wNew_eq, wNm_eq, dBox_agg, dBox_int, dBox_slice, dBox_string, dBox_bool, dBox_map, dBox_ptr, oneCells, wLd_none, wLd_2, wLd_3, wLd_32, ldP_cells, ldP_rom, cellP_one, getH_same, getH_ne, forceV_eq, forceN_eq, hsK_eq, Option.elim_some, List.getElem?_cons_zero, List.getElem?_cons_succ, Yld.val, decide_true, decide_false, if_true, if_false, Bool.false_eq_true, Nat.zero_add, Nat.add_zero, and_true, true_and, or_false, Bool.not_true, Bool.not_false, and_self, wBin_add64, wBin_sub64, wIdx_slice, wIdx_array, wNilc_eq, Int.toNat_natCast, Nat.mul_one, Nat.zero_mul, wSt_agg, wSt_int, wSt_bool, wSt_string, wSt_slice, wSt_ptr, wSt_map, wSt_func, stP_cells, bit_one, bit_zero, bit_one', bit_zero', wBin_shr32, wBin_and1, wBin_rem2, wBin_andNot32, wBin_or32, wBin_and32, wBin_shl32, u32_eq_zero, u32_ne_zero, List.length_cons, List.length_nil, Nat.le_refl, Nat.reduceAdd, Nat.reduceMul, Nat.reduceLeDiff, Int.toNat_zero, Int.toNat_one, hj', hb5, gv5]
  -- the key and the parent
  refine wLoop_rule (m := i - 1 - j) (fun m L H' nx' => ∃ (k : Nat), m + j = k ∧ k < i ∧ L = [.int .u32 ((maskOf (keyB N v (order.drop (k + 1))) i : Nat) : Int), .int .i64 (parB N v (order.drop (k + 1))), .int .i64 (k : Int)] ∧ H5 = H' ∧ nx4 ≤ nx') ?_ ⟨i - 1, by omega, by omega, ?_, rfl, hx5⟩
  rotate_left
  · have e : order.drop (i - 1 + 1) = [] := List.drop_of_length_le (by omega)
    rw [e, key_nil]
    have e2 : ((i - 1 : Nat) : Int) = (i : Int) - 1 := by omega
    rw [e2]; rfl
  rintro m6 ih6 L6 _ nx6 ⟨k, hm6, hki, rfl, rfl, hx6⟩ hih6
  simp (disch := first | omega | assumption | exact shr_lt (by assumption) | exact ndiff32 (by assumption) | exact below_lt (by omega) | fail) only [List.getD_cons_zero, List.getD_cons_succ, wBin_lss, wBin_leq, wBin_gtr, wBin_geq, wBin_eql, wBin_neq, wIf_bool, wGuard_true, wGuard_false, wPick_true, wPick_false, wUn_not, wFld_eq, wExt_eq, wPart_one, wPart_agg, wLen_slice, wLen_string, wNew_eq, wNm_eq, dBox_agg, dBox_int, dBox_slice, dBox_string, dBox_bool, dBox_map, dBox_ptr, oneCells, wLd_none, wLd_2, wLd_3, wLd_32, ldP_cells, ldP_rom, cellP_one, getH_same, getH_ne, forceV_eq, forceN_eq, hsK_eq, Option.elim_some, List.getElem?_cons_zero, List.getElem?_cons_succ, Yld.val, decide_true, decide_false, if_true, if_false, Bool.false_eq_true, Nat.zero_add, Nat.add_zero, and_true, true_and, or_false, Bool.not_true, Bool.not_false, and_self, wBin_add64, wBin_sub64, wIdx_slice, wIdx_array, wNilc_eq, Int.toNat_natCast, Nat.mul_one, Nat.zero_mul, wSt_agg, wSt_int, wSt_bool, wSt_string, wSt_slice, wSt_ptr, wSt_map, wSt_func, stP_cells, bit_one, bit_zero, bit_one', bit_zero', wBin_shr32, wBin_and1, wBin_rem2, wBin_andNot32, wBin_or32, wBin_and32, wBin_shl32, u32_eq_zero, u32_ne_zero, List.length_cons, List.length_nil, Nat.le_refl, Nat.reduceAdd, Nat.reduceMul, Nat.reduceLeDiff, Int.toNat_zero, Int.toNat_one]
  by_cases hk : j < k
  case pos =>
    have hk' : (k : Int) > (j : Int) := by omega
    obtain ⟨w, hw⟩ : ∃ w, order[k]? = some w := ⟨_, List.getElem?_eq_getElem (by omega)⟩
    have hwn : w < i := hlt w (List.mem_of_getElem? hw)
    have gw := hget k w hw
    have gnear := u32s_get (hnv v hvn)
    have hm32 := maskOf32 hn (N v)
    have hbit : (maskOf (N v) i).testBit w = N v w := by rw [maskOf_bit]; simp [hwn]
    have hkey32 := maskOf32 hn (keyB N v (order.drop (k + 1)))
    have hkc := key_cons (N := N) (v := v) hwn (not_mem_drop hnd hw)
    have hpc := par_cons (N := N) (v := v) (x := w) (rest := order.drop (k + 1))
    rw [← drop_get hw] at hkc hpc
    have hk1 : k - 1 + 1 = k := by omega
    simp (disch := first | omega | assumption | exact shr_lt (by assumption) | exact ndiff32 (by assumption) | exact below_lt (by omega) | fail) only [List.getD_cons_zero, List.getD_cons_succ, wBin_lss, wBin_leq, wBin_gtr, wBin_geq, wBin_eql, wBin_neq, wIf_bool, wGuard_true, wGuard_false, wPick_true, wPick_false, wUn_not, wFld_eq, wExt_eq, wPart_one, wPart_agg, wLen_slice, wLen_string, wNew_eq, wNm_eq, dBox_agg, dBox_int, dBox_slice, dBox_string, dBox_bool, dBox_map, dBox_ptr, oneCells, wLd_none, wLd_2, wLd_3, wLd_32, ldP_cells, ldP_rom, cellP_one, getH_same, getH_ne, forceV_eq, forceN_eq, hsK_eq, Option.elim_some, List.getElem?_cons_zero, List.getElem?_cons_succ, Yld.val, decide_true, decide_false, if_true, if_false, Bool.false_eq_true, Nat.zero_add, Nat.add_zero, and_true, true_and, or_false, Bool.not_true, Bool.not_false, and_self, wBin_add64, wBin_sub64, wIdx_slice, wIdx_array, wNilc_eq, Int.toNat_natCast, Nat.mul_one, Nat.zero_mul, wSt_agg, wSt_int, wSt_bool, wSt_string, wSt_slice, wSt_ptr, wSt_map, wSt_func, stP_cells, bit_one, bit_zero, bit_one', bit_zero', wBin_shr32, wBin_and1, wBin_rem2, wBin_andNot32, wBin_or32, wBin_and32, wBin_shl32, u32_eq_zero, u32_ne_zero, List.length_cons, List.length_nil, Nat.le_refl, Nat.reduceAdd, Nat.reduceMul, Nat.reduceLeDiff, Int.toNat_zero, Int.toNat_one, hk', wJoin_eq, hb5, hM.near, gnear, gw]
    refine wCall_rule (has29 hm32 _ _) ?_
    rintro _ _ _ ⟨rfl, rfl, rfl⟩
    rw [hbit]
    cases hN : N v w with
    | false =>
      rw [hN] at hkc hpc
      simp (disch := first | omega | assumption | exact shr_lt (by assumption) | exact ndiff32 (by assumption) | exact below_lt (by omega) | fail) only [List.getD_cons_zero, List.getD_cons_succ, wBin_lss, wBin_leq, wBin_gtr, wBin_geq, wBin_eql, wBin_neq, wIf_bool, wGuard_true, wGuard_false, wPick_true, wPick_false, wUn_not, wFld_eq, wExt_eq, wPart_one, wPart_agg, wLen_slice, wLen_string, wNew_eq, wNm_eq, dBox_agg, dBox_int, dBox_slice, dBox_string, dBox_bool, dBox_map, dBox_ptr, oneCells, wLd_none, wLd_2, wLd_3, wLd_32, ldP_cells, ldP_rom, cellP_one, getH_same, getH_ne, forceV_eq, forceN_eq, hsK_eq, Option.elim_some, List.getElem?_cons_zero, List.getElem?_cons_succ, Yld.val, decide_true, decide_false, if_true, if_false, Bool.false_eq_true, Nat.zero_add, Nat.add_zero, and_true, true_and, or_false, Bool.not_true, Bool.not_false, and_self, wBin_add64, wBin_sub64, wIdx_slice, wIdx_array, wNilc_eq, Int.toNat_natCast, Nat.mul_one, Nat.zero_mul, wSt_agg, wSt_int, wSt_bool, wSt_string, wSt_slice, wSt_ptr, wSt_map, wSt_func, stP_cells, bit_one, bit_zero, bit_one', bit_zero', wBin_shr32, wBin_and1, wBin_rem2, wBin_andNot32, wBin_or32, wBin_and32, wBin_shl32, u32_eq_zero, u32_ne_zero, List.length_cons, List.length_nil, Nat.le_refl, Nat.reduceAdd, Nat.reduceMul, Nat.reduceLeDiff, Int.toNat_zero, Int.toNat_one, hb5, hM.near, gnear, gw]
      refine hih6 (m6 - 1) _ _ _ (by omega) ⟨k - 1, by omega, by omega, ?_, rfl, by omega⟩
      rw [hk1, hkc, hpc]
      have e2 : ((k - 1 : Nat) : Int) = (k : Int) - 1 := by omega
      rw [e2]; rfl
    | true =>
      rw [hN] at hkc hpc
      have hs32 := maskOf32 hn (keyB N v (order.drop k))
      rw [hkc, if_pos rfl] at hs32
      simp (disch := first | omega | assumption | exact shr_lt (by assumption) | exact ndiff32 (by assumption) | exact below_lt (by omega) | fail) only [List.getD_cons_zero, List.getD_cons_succ, wBin_lss, wBin_leq, wBin_gtr, wBin_geq, wBin_eql, wBin_neq, wIf_bool, wGuard_true, wGuard_false, wPick_true, wPick_false, wUn_not, wFld_eq, wExt_eq, wPart_one, wPart_agg, wLen_slice, wLen_string, wNew_eq, wNm_eq, dBox_agg, dBox_int, dBox_slice, dBox_string, dBox_bool, dBox_map, dBox_ptr, oneCells, wLd_none, wLd_2, wLd_3, wLd_32, ldP_cells, ldP_rom, cellP_one, getH_same, getH_ne, forceV_eq, forceN_eq, hsK_eq, Option.elim_some, List.getElem?_cons_zero, List.getElem?_cons_succ, Yld.val, decide_true, decide_false, if_true, if_false, Bool.false_eq_true, Nat.zero_add, Nat.add_zero, and_true, true_and, or_false, Bool.not_true, Bool.not_false, and_self, wBin_add64, wBin_sub64, wIdx_slice, wIdx_array, wNilc_eq, Int.toNat_natCast, Nat.mul_one, Nat.zero_mul, wSt_agg, wSt_int, wSt_bool, wSt_string, wSt_slice, wSt_ptr, wSt_map, wSt_func, stP_cells, bit_one, bit_zero, bit_one', bit_zero', wBin_shr32, wBin_and1, wBin_rem2, wBin_andNot32, wBin_or32, wBin_and32, wBin_shl32, u32_eq_zero, u32_ne_zero, List.length_cons, List.length_nil, Nat.le_refl, Nat.reduceAdd, Nat.reduceMul, Nat.reduceLeDiff, Int.toNat_zero, Int.toNat_one, hb5, hM.near, gnear, gw, wBin_add32]
      refine hih6 (m6 - 1) _ _ _ (by omega) ⟨k - 1, by omega, by omega, ?_, rfl, by omega⟩
      rw [hk1, hkc, hpc]
      have e2 : ((k - 1 : Nat) : Int) = (k : Int) - 1 := by omega
      rw [e2]; rfl
  have hkj : k = j := by omega
  subst hkj
  have hk' : ¬ (k : Int) > (k : Int) := by omega
  generalize hrest : order.drop (k + 1) = rest
  have hbld : ∀ kk, wBuild [.int .i64 0, .int .u32 0, .int .i64 0] [(0, 1), (1, 1), (2, 1)] [(0, .int .i64 (v : Int)), (1, .int .u32 ((maskOf (keyB N v rest) i : Nat) : Int)), (2, .int .i64 (parB N v rest))] kk = kk (.agg ⟨[.int .i64 (v : Int), .int .u32 ((maskOf (keyB N v rest) i : Nat) : Int), .int .i64 (parB N v rest)]⟩) := fun _ => rfl
  have hset : putL (bagsC out) (v * 3) [.int .i64 (v : Int), .int .u32 ((maskOf (keyB N v rest) i : Nat) : Int), .int .i64 (parB N v rest)] = bagsC (out.set v (bagOf i N v rest)) := bagsC_set (b := bagOf i N v rest) (by omega)
  have hbl : (bagsC out).length = i * 3 := by rw [bagsC_length, hol]
  simp (disch := first | omega | assumption | exact shr_lt (by assumption) | exact ndiff32 (by assumption) | exact below_lt (by omega) | fail) only [List.getD_cons_zero, List.getD_cons_succ, wBin_lss, wBin_leq, wBin_gtr, wBin_geq, wBin_eql, wBin_neq, wIf_bool, wGuard_true, wGuard_false, wPick_true, wPick_false, wUn_not, wFld_eq, wExt_eq, wPart_one, wPart_agg, wLen_slice, wLen_string, wNew_eq, wNm_eq, dBox_agg, dBox_int, dBox_slice, dBox_string, dBox_bool, dBox_map, dBox_ptr, oneCells, wLd_none, wLd_2, wLd_3, wLd_32, ldP_cells, ldP_rom, cellP_one, getH_same, getH_ne, forceV_eq, forceN_eq, hsK_eq, Option.elim_some, List.getElem?_cons_zero, List.getElem?_cons_succ, Yld.val, decide_true, decide_false, if_true, if_false, Bool.false_eq_true, Nat.zero_add, Nat.add_zero, and_true, true_and, or_false, Bool.not_true, Bool.not_false, and_self, wBin_add64, wBin_sub64, wIdx_slice, wIdx_array, wNilc_eq, Int.toNat_natCast, Nat.mul_one, Nat.zero_mul, wSt_agg, wSt_int, wSt_bool, wSt_string, wSt_slice, wSt_ptr, wSt_map, wSt_func, stP_cells, bit_one, bit_zero, bit_one', bit_zero', wBin_shr32, wBin_and1, wBin_rem2, wBin_andNot32, wBin_or32, wBin_and32, wBin_shl32, u32_eq_zero, u32_ne_zero, List.length_cons, List.length_nil, Nat.le_refl, Nat.reduceAdd, Nat.reduceMul, Nat.reduceLeDiff, Int.toNat_zero, Int.toNat_one, hk', hbld, hM.out, hset, hbl]
  refine ⟨by omega, ?_⟩
  have hM7 := hM.setOut (by omega) (out.set v (bagOf i N v rest))
  have hol7 : (out.set v (bagOf i N v rest)).length = i := by rw [List.length_set]; exact hol
  have hout7 : outs i (out.set v (bagOf i N v rest)) (stepN N v rest) rest = outs i (List.replicate i zeroBag) (adj es) order := by
    rw [← hout, drop_get hv, hrest]; rfl
  have hkey32 := maskOf32 hn (keyB N v rest)
  clear hih6
  refine wLoop_rule (m := i) (fun m L H' nx' => ∃ (p : Nat) (near : List Nat), m + p = i ∧ L = [.int .i64 (p : Int)] ∧ M16 H4 (nx + 1) nx2 near (out.set v (bagOf i N v rest)) H' ∧ near.length = i ∧ (∀ u, u < i → near[u]? = some (maskOf (if u < p then stepN N v rest u else N u) i)) ∧ nx4 ≤ nx') ?_ ⟨0, near, rfl, rfl, hM7, hnl, fun u hu => by rw [hnv u hu]; simp, hx6⟩
  rintro m8 ih8 L8 H8 nx8 ⟨p, near8, hm8, rfl, hM8, hnl8, hnv8, hx8⟩ hih8
  have hG8 : getH H8 nx = some (.cells [.int .i64 i, .slice A es.length cap] 0) := by rw [hM8.same nx (by omega) (by omega)]; exact hG4
  simp (disch := first | omega | assumption | exact shr_lt (by assumption) | exact ndiff32 (by assumption) | exact below_lt (by omega) | fail) only [List.getD_cons_zero, List.getD_cons_succ, wBin_lss, wBin_leq, wBin_gtr, wBin_geq, wBin_eql, wBin_neq, wIf_bool, wGuard_true, wGuard_false, wPick_true, wPick_false, wUn_not, wFld_eq, wExt_eq, wPart_one, wPart_agg, wLen_slice, wLen_string, wNew_eq, wNm_eq, dBox_agg, dBox_int, dBox_slice, dBox_string, dBox_bool, dBox_map, dBox_ptr, oneCells, wLd_none, wLd_2, wLd_3, wLd_32, ldP_cells, ldP_rom, cellP_one, getH_same, getH_ne, forceV_eq, forceN_eq, hsK_eq, Option.elim_some, List.getElem?_cons_zero, List.getElem?_cons_succ, Yld.val, decide_true, decide_false, if_true, if_false, Bool.false_eq_true, Nat.zero_add, Nat.add_zero, and_true, true_and, or_false, Bool.not_true, Bool.not_false, and_self, wBin_add64, wBin_sub64, wIdx_slice, wIdx_array, wNilc_eq, Int.toNat_natCast, Nat.mul_one, Nat.zero_mul, wSt_agg, wSt_int, wSt_bool, wSt_string, wSt_slice, wSt_ptr, wSt_map, wSt_func, stP_cells, bit_one, bit_zero, bit_one', bit_zero', wBin_shr32, wBin_and1, wBin_rem2, wBin_andNot32, wBin_or32, wBin_and32, wBin_shl32, u32_eq_zero, u32_ne_zero, List.length_cons, List.length_nil, Nat.le_refl, Nat.reduceAdd, Nat.reduceMul, Nat.reduceLeDiff, Int.toNat_zero, Int.toNat_one, hG8]
  by_cases hp : p < i
  case neg =>
    have hp' : ¬ (p : Int) < (i : Int) := by omega
    simp (disch := first | omega | assumption | exact shr_lt (by assumption) | exact ndiff32 (by assumption) | exact below_lt (by omega) | fail) only [List.getD_cons_zero, List.getD_cons_succ, wBin_lss, wBin_leq, wBin_gtr, wBin_geq, wBin_eql, wBin_neq, wIf_bool, wGuard_true, wGuard_false, wPick_true, wPick_false, wUn_not, wFld_eq, wExt_eq, wPart_one, wPart_agg, wLen_slice, wLen_string, wNew_eq, wNm_eq, dBox_agg, dBox_int, dBox_slice, dBox_string, dBox_bool, dBox_map, dBox_ptr, oneCells, wLd_none, wLd_2, wLd_3, wLd_32, ldP_cells, ldP_rom, cellP_one, getH_same, getH_ne, forceV_eq, forceN_eq, hsK_eq, Option.elim_some, List.getElem?_cons_zero, List.getElem?_cons_succ, Yld.val, decide_true, decide_false, if_true, if_false, Bool.false_eq_true, Nat.zero_add, Nat.add_zero, and_true, true_and, or_false, Bool.not_true, Bool.not_false, and_self, wBin_add64, wBin_sub64, wIdx_slice, wIdx_array, wNilc_eq, Int.toNat_natCast, Nat.mul_one, Nat.zero_mul, wSt_agg, wSt_int, wSt_bool, wSt_string, wSt_slice, wSt_ptr, wSt_map, wSt_func, stP_cells, bit_one, bit_zero, bit_one', bit_zero', wBin_shr32, wBin_and1, wBin_rem2, wBin_andNot32, wBin_or32, wBin_and32, wBin_shl32, u32_eq_zero, u32_ne_zero, List.length_cons, List.length_nil, Nat.le_refl, Nat.reduceAdd, Nat.reduceMul, Nat.reduceLeDiff, Int.toNat_zero, Int.toNat_one, hp']
    refine hih (m - 1) _ _ _ (by omega) ⟨k + 1, near8, _, stepN N v rest, by omega, by simp, hM8, hnl8, fun u hu => ?_, hol7, by rw [hrest]; exact hout7, hx8⟩
    rw [hnv8 u hu, if_pos (by omega)]
  have hp' : (p : Int) < (i : Int) := by omega
  simp (disch := first | omega | assumption | exact shr_lt (by assumption) | exact ndiff32 (by assumption) | exact below_lt (by omega) | fail) only [List.getD_cons_zero, List.getD_cons_succ, wBin_lss, wBin_leq, wBin_gtr, wBin_geq, wBin_eql, wBin_neq, wIf_bool, wGuard_true, wGuard_false, wPick_true, wPick_false, wUn_not, wFld_eq, wExt_eq, wPart_one, wPart_agg, wLen_slice, wLen_string, wNew_eq, wNm_eq, dBox_agg, dBox_int, dBox_slice, dBox_string, dBox_bool, dBox_map, dBox_ptr, oneCells, wLd_none, wLd_2, wLd_3, wLd_32, ldP_cells, ldP_rom, cellP_one, getH_same, getH_ne, forceV_eq, forceN_eq, hsK_eq, Option.elim_some, List.getElem?_cons_zero, List.getElem?_cons_succ, Yld.val, decide_true, decide_false, if_true, if_false, Bool.false_eq_true, Nat.zero_add, Nat.add_zero, and_true, true_and, or_false, Bool.not_true, Bool.not_false, and_self, wBin_add64, wBin_sub64, wIdx_slice, wIdx_array, wNilc_eq, Int.toNat_natCast, Nat.mul_one, Nat.zero_mul, wSt_agg, wSt_int, wSt_bool, wSt_string, wSt_slice, wSt_ptr, wSt_map, wSt_func, stP_cells, bit_one, bit_zero, bit_one', bit_zero', wBin_shr32, wBin_and1, wBin_rem2, wBin_andNot32, wBin_or32, wBin_and32, wBin_shl32, u32_eq_zero, u32_ne_zero, List.length_cons, List.length_nil, Nat.le_refl, Nat.reduceAdd, Nat.reduceMul, Nat.reduceLeDiff, Int.toNat_zero, Int.toNat_one, hp']
  refine wLoop_rule (m := i) (fun m L H' nx' => ∃ (q : Nat) (near : List Nat), m + q = i ∧ L = [.int .i64 (q : Int)] ∧ M16 H4 (nx + 1) nx2 near (out.set v (bagOf i N v rest)) H' ∧ near.length = i ∧ (∀ u, u < i → near[u]? = some (maskOf (if u < p then stepN N v rest u else if u = p then rowQ N v rest p q else N u) i)) ∧ nx4 ≤ nx') ?_ ⟨0, near8, rfl, rfl, hM8, hnl8, fun u hu => by
    rw [hnv8 u hu]
    by_cases h1 : u < p
    · rw [if_pos h1, if_pos h1]
    · rw [if_neg h1, if_neg h1]
      by_cases h2 : u = p
      · subst h2; rw [if_pos rfl, rowQ_zero]
      · rw [if_neg h2], hx8⟩
  rintro m9 ih9 L9 H9 nx9 ⟨q, near9, hm9, rfl, hM9, hnl9, hnv9, hx9⟩ hih9
  have hG9 : getH H9 nx = some (.cells [.int .i64 i, .slice A es.length cap] 0) := by rw [hM9.same nx (by omega) (by omega)]; exact hG4
  simp (disch := first | omega | assumption | exact shr_lt (by assumption) | exact ndiff32 (by assumption) | exact below_lt (by omega) | fail) only [List.getD_cons_zero, List.getD_cons_succ, wBin_lss, wBin_leq, wBin_gtr, wBin_geq, wBin_eql, wBin_neq, wIf_bool, wGuard_true, wGuard_false, wPick_true, wPick_false, wUn_not, wFld_eq, wExt_eq, wPart_one, wPart_agg, wLen_slice, wLen_string, wNew_eq, wNm_eq, dBox_agg, dBox_int, dBox_slice, dBox_string, dBox_bool, dBox_map, dBox_ptr, oneCells, wLd_none, wLd_2, wLd_3, wLd_32, ldP_cells, ldP_rom, cellP_one, getH_same, getH_ne, forceV_eq, forceN_eq, hsK_eq, Option.elim_some, List.getElem?_cons_zero, List.getElem?_cons_succ, Yld.val, decide_true, decide_false, if_true, if_false, Bool.false_eq_true, Nat.zero_add, Nat.add_zero, and_true, true_and, or_false, Bool.not_true, Bool.not_false, and_self, wBin_add64, wBin_sub64, wIdx_slice, wIdx_array, wNilc_eq, Int.toNat_natCast, Nat.mul_one, Nat.zero_mul, wSt_agg, wSt_int, wSt_bool, wSt_string, wSt_slice, wSt_ptr, wSt_map, wSt_func, stP_cells, bit_one, bit_zero, bit_one', bit_zero', wBin_shr32, wBin_and1, wBin_rem2, wBin_andNot32, wBin_or32, wBin_and32, wBin_shl32, u32_eq_zero, u32_ne_zero, List.length_cons, List.length_nil, Nat.le_refl, Nat.reduceAdd, Nat.reduceMul, Nat.reduceLeDiff, Int.toNat_zero, Int.toNat_one, hG9]
  by_cases hq : q < i
  case neg =>
    have hq' : ¬ (q : Int) < (i : Int) := by omega
    have hqi : q = i := by omega
    subst hqi
    simp (disch := first | omega | assumption | exact shr_lt (by assumption) | exact ndiff32 (by assumption) | exact below_lt (by omega) | fail) only [List.getD_cons_zero, List.getD_cons_succ, wBin_lss, wBin_leq, wBin_gtr, wBin_geq, wBin_eql, wBin_neq, wIf_bool, wGuard_true, wGuard_false, wPick_true, wPick_false, wUn_not, wFld_eq, wExt_eq, wPart_one, wPart_agg, wLen_slice, wLen_string, wNew_eq, wNm_eq, dBox_agg, dBox_int, dBox_slice, dBox_string, dBox_bool, dBox_map, dBox_ptr, oneCells, wLd_none, wLd_2, wLd_3, wLd_32, ldP_cells, ldP_rom, cellP_one, getH_same, getH_ne, forceV_eq, forceN_eq, hsK_eq, Option.elim_some, List.getElem?_cons_zero, List.getElem?_cons_succ, Yld.val, decide_true, decide_false, if_true, if_false, Bool.false_eq_true, Nat.zero_add, Nat.add_zero, and_true, true_and, or_false, Bool.not_true, Bool.not_false, and_self, wBin_add64, wBin_sub64, wIdx_slice, wIdx_array, wNilc_eq, Int.toNat_natCast, Nat.mul_one, Nat.zero_mul, wSt_agg, wSt_int, wSt_bool, wSt_string, wSt_slice, wSt_ptr, wSt_map, wSt_func, stP_cells, bit_one, bit_zero, bit_one', bit_zero', wBin_shr32, wBin_and1, wBin_rem2, wBin_andNot32, wBin_or32, wBin_and32, wBin_shl32, u32_eq_zero, u32_ne_zero, List.length_cons, List.length_nil, Nat.le_refl, Nat.reduceAdd, Nat.reduceMul, Nat.reduceLeDiff, Int.toNat_zero, Int.toNat_one, hq']
    refine hih8 (m8 - 1) _ _ _ (by omega) ⟨p + 1, near9, by omega, by simp, hM9, hnl9, fun u hu => ?_, hx9⟩
    rw [hnv9 u hu]
    by_cases h1 : u < p
    · rw [if_pos h1, if_pos (by omega)]
    · rw [if_neg h1]
      by_cases h2 : u = p
      · subst h2; rw [if_pos rfl, if_pos (by omega), rowQ_all]
      · rw [if_neg h2, if_neg (by omega)]
  have hq' : (q : Int) < (i : Int) := by omega
  have kp : (maskOf (keyB N v rest) i).testBit p = keyB N v rest p := by rw [maskOf_bit]; simp [hp]
  have kq : (maskOf (keyB N v rest) i).testBit q = keyB N v rest q := by rw [maskOf_bit]; simp [hq]
  have skip : updB N v rest p q = false → ∀ u, u < i → near9[u]? = some (maskOf (if u < p then stepN N v rest u else if u = p then rowQ N v rest p (q + 1) else N u) i) := by
    intro hu u hui
    rw [hnv9 u hui]
    by_cases h1 : u < p
    · rw [if_pos h1, if_pos h1]
    · rw [if_neg h1, if_neg h1]
      by_cases h2 : u = p
      · rw [if_pos h2, if_pos h2, rowQ_skip hu]
      · rw [if_neg h2, if_neg h2]
  by_cases hpq : p = q
  · have d1 : decide ((p : Int) ≠ (q : Int)) = false := by simp [hpq]
    simp (disch := first | omega | assumption | exact shr_lt (by assumption) | exact ndiff32 (by assumption) | exact below_lt (by omega) | fail) only [List.getD_cons_zero, List.getD_cons_succ, wBin_lss, wBin_leq, wBin_gtr, wBin_geq, wBin_eql, wBin_neq, wIf_bool, wGuard_true, wGuard_false, wPick_true, wPick_false, wUn_not, wFld_eq, wExt_eq, wPart_one, wPart_agg, wLen_slice, wLen_string, wNew_eq, wNm_eq, dBox_agg, dBox_int, dBox_slice, dBox_string, dBox_bool, dBox_map, dBox_ptr, oneCells, wLd_none, wLd_2, wLd_3, wLd_32, ldP_cells, ldP_rom, cellP_one, getH_same, getH_ne, forceV_eq, forceN_eq, hsK_eq, Option.elim_some, List.getElem?_cons_zero, List.getElem?_cons_succ, Yld.val, decide_true, decide_false, if_true, if_false, Bool.false_eq_true, Nat.zero_add, Nat.add_zero, and_true, true_and, or_false, Bool.not_true, Bool.not_false, and_self, wBin_add64, wBin_sub64, wIdx_slice, wIdx_array, wNilc_eq, Int.toNat_natCast, Nat.mul_one, Nat.zero_mul, wSt_agg, wSt_int, wSt_bool, wSt_string, wSt_slice, wSt_ptr, wSt_map, wSt_func, stP_cells, bit_one, bit_zero, bit_one', bit_zero', wBin_shr32, wBin_and1, wBin_rem2, wBin_andNot32, wBin_or32, wBin_and32, wBin_shl32, u32_eq_zero, u32_ne_zero, List.length_cons, List.length_nil, Nat.le_refl, Nat.reduceAdd, Nat.reduceMul, Nat.reduceLeDiff, Int.toNat_zero, Int.toNat_one, hq', wJoin_eq, d1]
    exact hih9 (m9 - 1) _ _ _ (by omega) ⟨q + 1, near9, by omega, by simp, hM9, hnl9, skip (by simp [updB, hpq]), hx9⟩
  have d1 : decide ((p : Int) ≠ (q : Int)) = true := by simp; omega
  simp (disch := first | omega | assumption | exact shr_lt (by assumption) | exact ndiff32 (by assumption) | exact below_lt (by omega) | fail) only [List.getD_cons_zero, List.getD_cons_succ, wBin_lss, wBin_leq, wBin_gtr, wBin_geq, wBin_eql, wBin_neq, wIf_bool, wGuard_true, wGuard_false, wPick_true, wPick_false, wUn_not, wFld_eq, wExt_eq, wPart_one, wPart_agg, wLen_slice, wLen_string, wNew_eq, wNm_eq, dBox_agg, dBox_int, dBox_slice, dBox_string, dBox_bool, dBox_map, dBox_ptr, oneCells, wLd_none, wLd_2, wLd_3, wLd_32, ldP_cells, ldP_rom, cellP_one, getH_same, getH_ne, forceV_eq, forceN_eq, hsK_eq, Option.elim_some, List.getElem?_cons_zero, List.getElem?_cons_succ, Yld.val, decide_true, decide_false, if_true, if_false, Bool.false_eq_true, Nat.zero_add, Nat.add_zero, and_true, true_and, or_false, Bool.not_true, Bool.not_false, and_self, wBin_add64, wBin_sub64, wIdx_slice, wIdx_array, wNilc_eq, Int.toNat_natCast, Nat.mul_one, Nat.zero_mul, wSt_agg, wSt_int, wSt_bool, wSt_string, wSt_slice, wSt_ptr, wSt_map, wSt_func, stP_cells, bit_one, bit_zero, bit_one', bit_zero', wBin_shr32, wBin_and1, wBin_rem2, wBin_andNot32, wBin_or32, wBin_and32, wBin_shl32, u32_eq_zero, u32_ne_zero, List.length_cons, List.length_nil, Nat.le_refl, Nat.reduceAdd, Nat.reduceMul, Nat.reduceLeDiff, Int.toNat_zero, Int.toNat_one, hq', wJoin_eq, d1]
  refine wCall_rule (has29 hkey32 _ _) ?_
  rintro _ _ _ ⟨rfl, rfl, rfl⟩
  rw [kp]
  cases hkp : keyB N v rest p with
  | false =>
    simp (disch := first | omega | assumption | exact shr_lt (by assumption) | exact ndiff32 (by assumption) | exact below_lt (by omega) | fail) only [List.getD_cons_zero, List.getD_cons_succ, wBin_lss, wBin_leq, wBin_gtr, wBin_geq, wBin_eql, wBin_neq, wIf_bool, wGuard_true, wGuard_false, wPick_true, wPick_false, wUn_not, wFld_eq, wExt_eq, wPart_one, wPart_agg, wLen_slice, wLen_string, wNew_eq, wNm_eq, dBox_agg, dBox_int, dBox_slice, dBox_string, dBox_bool, dBox_map, dBox_ptr, oneCells, wLd_none, wLd_2, wLd_3, wLd_32, ldP_cells, ldP_rom, cellP_one, getH_same, getH_ne, forceV_eq, forceN_eq, hsK_eq, Option.elim_some, List.getElem?_cons_zero, List.getElem?_cons_succ, Yld.val, decide_true, decide_false, if_true, if_false, Bool.false_eq_true, Nat.zero_add, Nat.add_zero, and_true, true_and, or_false, Bool.not_true, Bool.not_false, and_self, wBin_add64, wBin_sub64, wIdx_slice, wIdx_array, wNilc_eq, Int.toNat_natCast, Nat.mul_one, Nat.zero_mul, wSt_agg, wSt_int, wSt_bool, wSt_string, wSt_slice, wSt_ptr, wSt_map, wSt_func, stP_cells, bit_one, bit_zero, bit_one', bit_zero', wBin_shr32, wBin_and1, wBin_rem2, wBin_andNot32, wBin_or32, wBin_and32, wBin_shl32, u32_eq_zero, u32_ne_zero, List.length_cons, List.length_nil, Nat.le_refl, Nat.reduceAdd, Nat.reduceMul, Nat.reduceLeDiff, Int.toNat_zero, Int.toNat_one]
    exact hih9 (m9 - 1) _ _ _ (by omega) ⟨q + 1, near9, by omega, by simp, hM9, hnl9, skip (by simp [updB, hkp]), hx9⟩
  | true =>
    simp (disch := first | omega | assumption | exact shr_lt (by assumption) | exact ndiff32 (by assumption) | exact below_lt (by omega) | fail) only [List.getD_cons_zero, List.getD_cons_succ, wBin_lss, wBin_leq, wBin_gtr, wBin_geq, wBin_eql, wBin_neq, wIf_bool, wGuard_true, wGuard_false, wPick_true, wPick_false, wUn_not, wFld_eq, wExt_eq, wPart_one, wPart_agg, wLen_slice, wLen_string, wNew_eq, wNm_eq, dBox_agg, dBox_int, dBox_slice, dBox_string, dBox_bool, dBox_map, dBox_ptr, oneCells, wLd_none, wLd_2, wLd_3, wLd_32, ldP_cells, ldP_rom, cellP_one, getH_same, getH_ne, forceV_eq, forceN_eq, hsK_eq, Option.elim_some, List.getElem?_cons_zero, List.getElem?_cons_succ, Yld.val, decide_true, decide_false, if_true, if_false, Bool.false_eq_true, Nat.zero_add, Nat.add_zero, and_true, true_and, or_false, Bool.not_true, Bool.not_false, and_self, wBin_add64, wBin_sub64, wIdx_slice, wIdx_array, wNilc_eq, Int.toNat_natCast, Nat.mul_one, Nat.zero_mul, wSt_agg, wSt_int, wSt_bool, wSt_string, wSt_slice, wSt_ptr, wSt_map, wSt_func, stP_cells, bit_one, bit_zero, bit_one', bit_zero', wBin_shr32, wBin_and1, wBin_rem2, wBin_andNot32, wBin_or32, wBin_and32, wBin_shl32, u32_eq_zero, u32_ne_zero, List.length_cons, List.length_nil, Nat.le_refl, Nat.reduceAdd, Nat.reduceMul, Nat.reduceLeDiff, Int.toNat_zero, Int.toNat_one]
    refine wCall_rule (has29 hkey32 _ _) ?_
    rintro _ _ _ ⟨rfl, rfl, rfl⟩
    rw [kq]
    cases hkq : keyB N v rest q with
    | false =>
      simp (disch := first | omega | assumption | exact shr_lt (by assumption) | exact ndiff32 (by assumption) | exact below_lt (by omega) | fail) only [List.getD_cons_zero, List.getD_cons_succ, wBin_lss, wBin_leq, wBin_gtr, wBin_geq, wBin_eql, wBin_neq, wIf_bool, wGuard_true, wGuard_false, wPick_true, wPick_false, wUn_not, wFld_eq, wExt_eq, wPart_one, wPart_agg, wLen_slice, wLen_string, wNew_eq, wNm_eq, dBox_agg, dBox_int, dBox_slice, dBox_string, dBox_bool, dBox_map, dBox_ptr, oneCells, wLd_none, wLd_2, wLd_3, wLd_32, ldP_cells, ldP_rom, cellP_one, getH_same, getH_ne, forceV_eq, forceN_eq, hsK_eq, Option.elim_some, List.getElem?_cons_zero, List.getElem?_cons_succ, Yld.val, decide_true, decide_false, if_true, if_false, Bool.false_eq_true, Nat.zero_add, Nat.add_zero, and_true, true_and, or_false, Bool.not_true, Bool.not_false, and_self, wBin_add64, wBin_sub64, wIdx_slice, wIdx_array, wNilc_eq, Int.toNat_natCast, Nat.mul_one, Nat.zero_mul, wSt_agg, wSt_int, wSt_bool, wSt_string, wSt_slice, wSt_ptr, wSt_map, wSt_func, stP_cells, bit_one, bit_zero, bit_one', bit_zero', wBin_shr32, wBin_and1, wBin_rem2, wBin_andNot32, wBin_or32, wBin_and32, wBin_shl32, u32_eq_zero, u32_ne_zero, List.length_cons, List.length_nil, Nat.le_refl, Nat.reduceAdd, Nat.reduceMul, Nat.reduceLeDiff, Int.toNat_zero, Int.toNat_one]
      exact hih9 (m9 - 1) _ _ _ (by omega) ⟨q + 1, near9, by omega, by simp, hM9, hnl9, skip (by simp [updB, hkq]), hx9⟩
    | true =>
      have hcur := hnv9 p hp
      rw [if_neg (by omega), if_pos rfl] at hcur
      have gcur := u32s_get hcur
      have hc32 := maskOf32 hn (rowQ N v rest p q)
      have hq32 : 2 ^ q < 4294967296 := pow32 (by omega)
      have hpl : p < near9.length := by omega
      have hlen9 : (u32s near9).length = i := by rw [u32s_length]; exact hnl9
      have hupd : updB N v rest p q = true := by simp [updB, hpq, hkp, hkq]
      simp (disch := first | omega | assumption | exact shr_lt (by assumption) | exact ndiff32 (by assumption) | exact below_lt (by omega) | fail) only [List.getD_cons_zero, List.getD_cons_succ, wBin_lss, wBin_leq, wBin_gtr, wBin_geq, wBin_eql, wBin_neq, wIf_bool, wGuard_true, wGuard_false, wPick_true, wPick_false, wUn_not, wFld_eq, wExt_eq, wPart_one, wPart_agg, wLen_slice, wLen_string, wNew_eq, wNm_eq, dBox_agg, dBox_int, dBox_slice, dBox_string, dBox_bool, dBox_map, dBox_ptr, oneCells, wLd_none, wLd_2, wLd_3, wLd_32, ldP_cells, ldP_rom, cellP_one, getH_same, getH_ne, forceV_eq, forceN_eq, hsK_eq, Option.elim_some, List.getElem?_cons_zero, List.getElem?_cons_succ, Yld.val, decide_true, decide_false, if_true, if_false, Bool.false_eq_true, Nat.zero_add, Nat.add_zero, and_true, true_and, or_false, Bool.not_true, Bool.not_false, and_self, wBin_add64, wBin_sub64, wIdx_slice, wIdx_array, wNilc_eq, Int.toNat_natCast, Nat.mul_one, Nat.zero_mul, wSt_agg, wSt_int, wSt_bool, wSt_string, wSt_slice, wSt_ptr, wSt_map, wSt_func, stP_cells, bit_one, bit_zero, bit_one', bit_zero', wBin_shr32, wBin_and1, wBin_rem2, wBin_andNot32, wBin_or32, wBin_and32, wBin_shl32, u32_eq_zero, u32_ne_zero, List.length_cons, List.length_nil, Nat.le_refl, Nat.reduceAdd, Nat.reduceMul, Nat.reduceLeDiff, Int.toNat_zero, Int.toNat_one, hM9.near, gcur, putL_u32s hpl, hlen9]
      refine ⟨by omega, hih9 (m9 - 1) _ _ _ (by omega) ⟨q + 1, near9.set p (maskOf (rowQ N v rest p q) i ||| 2 ^ q), by omega, by simp, hM9.setNear (by omega) _, by rw [List.length_set]; exact hnl9, fun u hu => ?_, by omega⟩⟩
      rw [List.getElem?_set]
      by_cases h2 : p = u
      · subst h2; rw [if_pos rfl, if_pos hpl, if_neg (by omega), if_pos rfl, rowQ_set hupd hq]
      · rw [if_neg h2, hnv9 u hu]
        by_cases h1 : u < p
        · rw [if_pos h1, if_pos h1]
        · rw [if_neg h1, if_neg h1, if_neg (fun e => h2 e.symm), if_neg (fun e => h2 e.symm)]
end Go.Proofs.Ytaieijjfabbfeaa

set_option linter.unusedSimpArgs false
set_option linter.unusedVariables false
set_option linter.unusedSectionVars false
namespace Go.Proofs.Ytaieijjfabbfeaa
open Go.Clo

structure NbOK (N : Nb) : Prop where
  symm : ∀ a b, N a b = N b a
  irr : ∀ a, N a a = false
theorem adj_ok (es : List Nat) : NbOK (adj es) := ⟨adj_symm es, adj_self es⟩
theorem step_ok {N : Nb} (h : NbOK N) (v : Nat) (rest : List Nat) : NbOK (stepN N v rest) := by
  refine ⟨fun a b => ?_, fun a => ?_⟩
  · unfold stepN
    rw [h.symm a b, Bool.and_comm (keyB N v rest a)]
    have : decide (a ≠ b) = decide (b ≠ a) := by congr 1; apply propext; exact ne_comm
    rw [this]
  · simp [stepN, h.irr]

theorem key_self {N : Nb} (h : NbOK N) (v n : Nat) (rest : List Nat) : maskOf (keyB N v (v :: rest)) n = maskOf (keyB N v rest) n :=
  maskOf_congr fun w _ => by
    unfold keyB
    by_cases hw : w = v
    · subst hw; simp [h.irr]
    · simp [hw]
theorem nb_skip {N : Nb} (h : NbOK N) {v u n : Nat} {rest : List Nat} (hu : u ∈ rest) (hk : keyB N v rest u = false) : maskOf (keyB N u (v :: rest)) n = maskOf (keyB (stepN N v rest) u rest) n :=
  maskOf_congr fun w _ => by
    have hvu : N v u = false := by simpa [keyB, hu] using hk
    have huv : N u v = false := by rw [h.symm]; exact hvu
    simp only [keyB, stepN, hvu, List.mem_cons, Bool.false_and, Bool.and_false, Bool.or_false]
    by_cases hw : w = v
    · subst hw; simp [huv]
    · simp [hw]
theorem nb_step {N : Nb} (h : NbOK N) {v u n : Nat} {rest : List Nat} (hvr : v ∉ rest) (hk : keyB N v rest u = true) :
    ndiff (maskOf (keyB N u (v :: rest)) n ||| maskOf (keyB N v rest) n) (2 ^ u ||| 2 ^ v) = maskOf (keyB (stepN N v rest) u rest) n := by
  apply Nat.eq_of_testBit_eq
  intro w
  rw [ndiff_bit, Nat.testBit_or, Nat.testBit_or, maskOf_bit, maskOf_bit, maskOf_bit, Nat.testBit_two_pow, Nat.testBit_two_pow]
  have hk1 := hk
  simp only [keyB, Bool.and_eq_true, decide_eq_true_eq] at hk1
  by_cases hwn : w < n
  · simp only [hwn, decide_true, Bool.true_and]
    by_cases hwu : w = u
    · subst hwu
      simp [keyB, stepN, h.irr]
    · have e1 : decide (u = w) = false := by simp; omega
      have e3 : decide (u ≠ w) = true := by simp; omega
      by_cases hwv : w = v
      · subst hwv
        simp [keyB, hvr]
      · have e2 : decide (v = w) = false := by simp; omega
        simp only [e1, e2, Bool.or_false, Bool.not_false, Bool.and_true]
        simp only [keyB, stepN, e3, List.mem_cons, hwv, false_or, Bool.true_and]
        have : (N v u && decide (u ∈ rest)) = true := hk
        rw [this, Bool.true_and]
        cases decide (w ∈ rest) <;> simp
  · simp [hwn]

/-- The parent, found so far. -/
def ParI (N : Nb) (v : Nat) (order rest : List Nat) (u : Nat) (par : Int) : Prop :=
  (par = -1 ∧ ∀ w, w < u → keyB N v rest w = false) ∨ ∃ p jp : Nat, par = p ∧ order[jp]? = some p ∧ keyB N v rest p = true ∧ ∀ w jw : Nat, w < u → order[jw]? = some w → keyB N v rest w = true → jp ≤ jw

theorem nodup_at {l : List Nat} (h : l.Nodup) {i j x : Nat} (hi : l[i]? = some x) (hj : l[j]? = some x) : i = j := by
  rcases Nat.lt_trichotomy i j with hl | he | hg
  · have := (List.pairwise_iff_getElem.mp h) i j (lt_len hi) (lt_len hj) hl
    exact absurd (by rw [(List.getElem?_eq_some_iff.mp hi).2, (List.getElem?_eq_some_iff.mp hj).2]) this
  · exact he
  · have := (List.pairwise_iff_getElem.mp h) j i (lt_len hj) (lt_len hi) hg
    exact absurd (by rw [(List.getElem?_eq_some_iff.mp hi).2, (List.getElem?_eq_some_iff.mp hj).2]) this
theorem par_min {N : Nb} {v n i : Nat} {order : List Nat} {par : Int} (hnd : order.Nodup) (hlt : ∀ w ∈ order, w < n) (h : ParI N v order (order.drop (i + 1)) n par) : par = parB N v (order.drop (i + 1)) := by
  unfold parB
  cases hf : (order.drop (i + 1)).find? (N v) with
  | none =>
    rw [List.find?_eq_none] at hf
    rcases h with ⟨h, _⟩ | ⟨p, jp, _, _, hk, _⟩
    · exact h
    · simp only [keyB, Bool.and_eq_true, decide_eq_true_eq] at hk
      exact absurd hk.1 (hf p hk.2)
  | some w0 =>
    obtain ⟨hw0, t, ht, hte, hbefore⟩ := List.find?_eq_some_iff_getElem.mp hf
    have h0 : order[i + 1 + t]? = some w0 := by
      rw [← hte, ← List.getElem?_drop]; exact List.getElem?_eq_getElem ht
    have hmem : w0 ∈ order.drop (i + 1) := hte ▸ List.getElem_mem ht
    have hk0 : keyB N v (order.drop (i + 1)) w0 = true := by simp [keyB, hw0, hmem]
    have hw0n := hlt w0 (List.mem_of_mem_drop hmem)
    rcases h with ⟨_, h⟩ | ⟨p, jp, rfl, hjp, hk, hmin⟩
    · rw [h w0 hw0n] at hk0; cases hk0
    · have hle := hmin w0 _ hw0n h0 hk0
      simp only [keyB, Bool.and_eq_true, decide_eq_true_eq] at hk
      obtain ⟨s, hs, hse⟩ := List.getElem_of_mem hk.2
      have hps : order[i + 1 + s]? = some p := by
        rw [← hse, ← List.getElem?_drop]; exact List.getElem?_eq_getElem hs
      have hj := nodup_at hnd hjp hps
      by_cases hst : s < t
      · have := hbefore s hst
        rw [hse] at this
        simp [hk.1] at this
      · have : s = t := by omega
        subst this
        rw [← hse, hte]
end Go.Proofs.Ytaieijjfabbfeaa
