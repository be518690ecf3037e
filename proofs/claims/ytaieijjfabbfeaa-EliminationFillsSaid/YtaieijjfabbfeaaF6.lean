/-
  Plain: elimination, with no program in sight.
  Contract: the reference's Bags.
  Plain: what the program's elimination keeps, step by step.
  MADE BY PROGRAM (wip/gen/gen.py): functions 13 4 as marked code, and their claims written out.
  Contract: the program's Bags.
  Plain: the bags of an elimination pass Check.
  The law EliminationBags: it returns true.
  MADE BY PROGRAM (wip/gen/gen.py): functions 21 53 54 55 38 56 40 39 22 23 6 as marked code, and their claims written out.
  Contracts for EliminationFills: equality of lists of bags; whether all edges are empty.
-/
import Derived.Test.YtaieijjfabbfeaaF5
import Derived.KernelRfl
set_option linter.unusedSimpArgs false
set_option linter.unusedVariables false
set_option linter.unusedSectionVars false
namespace Go.Proofs.Ytaieijjfabbfeaa
open Go.Clo

theorem maskOf_congr {p q : Nat → Bool} {n : Nat} (h : ∀ w, w < n → p w = q w) : maskOf p n = maskOf q n := by
  apply Nat.eq_of_testBit_eq
  intro i
  rw [maskOf_bit, maskOf_bit]
  by_cases hi : i < n
  · rw [h i hi]
  · simp [hi]
theorem maskOf_or {p : Nat → Bool} {n b : Nat} (hb : b < n) : maskOf p n ||| 2 ^ b = maskOf (fun w => p w || decide (w = b)) n := by
  apply Nat.eq_of_testBit_eq
  intro i
  rw [Nat.testBit_or, maskOf_bit, maskOf_bit, Nat.testBit_two_pow]
  by_cases hi : i = b
  · subst hi; simp [hb]
  · have h1 : decide (b = i) = false := by simp; omega
    simp [hi, h1]
theorem maskOf_add {p : Nat → Bool} {b : Nat} (h : p b = false) : ∀ {n : Nat}, b < n → maskOf p n + 2 ^ b = maskOf (fun w => p w || decide (w = b)) n
  | 0, hb => by omega
  | n + 1, hb => by
    by_cases hbn : b = n
    · subst hbn
      have e : maskOf p b = maskOf (fun w => p w || decide (w = b)) b := maskOf_congr fun w hw => by
        have : decide (w = b) = false := by simp; omega
        simp [this]
      simp [maskOf, h, e]
    · have ih := maskOf_add (p := p) (b := b) h (n := n) (by omega)
      have hd : decide (n = b) = false := by simp; omega
      simp only [maskOf, hd, Bool.or_false]
      split <;> omega

abbrev Nb := Nat → Nat → Bool
/-- The later neighbors of v. -/
def keyB (N : Nb) (v : Nat) (rest : List Nat) (w : Nat) : Bool := N v w && decide (w ∈ rest)
def stepN (N : Nb) (v : Nat) (rest : List Nat) : Nb := fun a b => N a b || (decide (a ≠ b) && (keyB N v rest a && keyB N v rest b))
def parB (N : Nb) (v : Nat) (rest : List Nat) : Int := match rest.find? (N v) with
  | some w => (w : Int)
  | none => -1
def bagOf (n : Nat) (N : Nb) (v : Nat) (rest : List Nat) : Bag := ⟨v, maskOf (keyB N v rest) n, parB N v rest⟩
def outs (n : Nat) : List Bag → Nb → List Nat → List Bag
  | out, _, [] => out
  | out, N, v :: rest => outs n (out.set v (bagOf n N v rest)) (stepN N v rest) rest

theorem key_cons {N : Nb} {v x n : Nat} {rest : List Nat} (hx : x < n) (hr : x ∉ rest) : maskOf (keyB N v (x :: rest)) n = if N v x then maskOf (keyB N v rest) n + 2 ^ x else maskOf (keyB N v rest) n := by
  split
  · rename_i h
    rw [maskOf_add (by simp [keyB, hr]) hx]
    refine maskOf_congr fun w _ => ?_
    simp only [keyB, List.mem_cons]
    by_cases hw : w = x
    · subst hw; simp [h]
    · simp [hw]
  · rename_i h
    refine maskOf_congr fun w _ => ?_
    simp only [keyB, List.mem_cons]
    by_cases hw : w = x
    · subst hw; simp [h]
    · simp [hw]
theorem par_cons {N : Nb} {v x : Nat} {rest : List Nat} : parB N v (x :: rest) = if N v x then (x : Int) else parB N v rest := by
  unfold parB
  rw [List.find?_cons]
  cases N v x <;> simp
theorem outs_len (n : Nat) : ∀ (order : List Nat) (out : List Bag) (N : Nb), (outs n out N order).length = out.length
  | [], _, _ => rfl
  | v :: rest, out, N => by rw [outs, outs_len n rest]; simp
end Go.Proofs.Ytaieijjfabbfeaa

set_option linter.unusedSimpArgs false
set_option linter.unusedVariables false
set_option linter.unusedSectionVars false
namespace Go.Proofs.Ytaieijjfabbfeaa
open Go.Clo

theorem maskOf32 {n : Nat} (hn : n ≤ 32) (p : Nat → Bool) : maskOf p n < 4294967296 :=
  Nat.lt_of_lt_of_le (maskOf_lt p n) (Nat.le_trans (Nat.pow_le_pow_right (by omega) hn) (by decide))
theorem dMsl_eq {n : Nat} (hn : n ≤ 1000000) (z : List Value) (k : List Value → Nat → Nat → Prop) : dMsl (.int .i64 (n : Int)) (.int .i64 (n : Int)) z k = k (repeatA z n) n n := by
  show cond (Nat.ble n n && Nat.ble n 1000000) (spine (repeatA z n) fun cs => k cs n n) False = _
  rw [bltrue (Nat.le_refl n), bltrue hn, spine_eq]; rfl
theorem repeat_u32 : ∀ n : Nat, repeatA [.int .u32 0] n = u32s (List.replicate n 0)
  | 0 => rfl
  | n + 1 => by rw [repeatA, repeat_u32 n]; rfl
def zeroBag : Bag := ⟨0, 0, 0⟩
theorem repeat_bag : ∀ n : Nat, repeatA [.int .i64 0, .int .u32 0, .int .i64 0] n = bagsC (List.replicate n zeroBag)
  | 0 => rfl
  | n + 1 => by rw [repeatA, repeat_bag n]; rfl
theorem bagsC_set {b : Bag} : ∀ {bs : List Bag} {v : Nat}, v < bs.length → putL (bagsC bs) (v * 3) (bagC b) = bagsC (bs.set v b)
  | [], v, h => by simp at h
  | c :: bs, 0, h => by simp [bagsC, putL, bagC]
  | c :: bs, v + 1, h => by
    have ih := bagsC_set (b := b) (bs := bs) (v := v) (by simpa using h)
    have e1 : bagsC (c :: bs) = bagC c ++ bagsC bs := rfl
    have e2 : bagsC ((c :: bs).set (v + 1) b) = bagC c ++ bagsC (bs.set v b) := rfl
    have e3 : (v + 1) * 3 = 3 + v * 3 := by omega
    rw [e1, e2, ← ih, e3]
    unfold putL
    have hc : (bagC c).length = 3 := rfl
    rw [List.take_append, List.drop_append, hc, List.take_of_length_le (by rw [hc]; omega), List.drop_eq_nil_of_le (by rw [hc]; omega)]
    have a1 : 3 + v * 3 - 3 = v * 3 := by omega
    have a2 : 3 + v * 3 + (bagC b).length - 3 = v * 3 + (bagC b).length := by omega
    rw [a1, a2]
    simp

structure M16 (K : Heap) (a o : Nat) (near : List Nat) (out : List Bag) (H : Heap) : Prop where
  near : getH H a = some (.cells (u32s near) 0)
  out : getH H o = some (.cells (bagsC out) 0)
  same : ∀ q, q ≠ a → q ≠ o → getH H q = getH K q
theorem M16.setNear {K : Heap} {a o : Nat} {near : List Nat} {out : List Bag} {H : Heap} (h : M16 K a o near out H) (hao : a ≠ o) (l : List Nat) : M16 K a o l out (hs H a (some (.cells (u32s l) 0))) :=
  ⟨getH_same _ _ _, by rw [getH_ne _ (by omega)]; exact h.out, fun q h1 h2 => by rw [getH_ne _ h1]; exact h.same q h1 h2⟩
theorem M16.setOut {K : Heap} {a o : Nat} {near : List Nat} {out : List Bag} {H : Heap} (h : M16 K a o near out H) (hao : a ≠ o) (l : List Bag) : M16 K a o near l (hs H o (some (.cells (bagsC l) 0))) :=
  ⟨by rw [getH_ne _ hao]; exact h.near, getH_same _ _ _, fun q h1 h2 => by rw [getH_ne _ h2]; exact h.same q h1 h2⟩

theorem key_nil (N : Nb) (v n : Nat) : maskOf (keyB N v []) n = 0 := by
  apply Nat.eq_of_testBit_eq; intro i; rw [maskOf_bit]; simp [keyB]

theorem drop_get {α : Type} {l : List α} {i : Nat} {x : α} (h : l[i]? = some x) : l.drop i = x :: l.drop (i + 1) := by
  have hi := lt_len h
  rw [List.drop_eq_getElem_cons hi]
  congr 1
  exact (List.getElem?_eq_some_iff.mp h).2
theorem not_mem_drop {l : List Nat} {i x : Nat} (hnd : l.Nodup) (h : l[i]? = some x) : x ∉ l.drop (i + 1) := by
  have h1 : (l.drop i).Nodup := hnd.sublist (List.drop_sublist _ _)
  rw [drop_get h] at h1
  exact (List.nodup_cons.mp h1).1

/-- Whether the step joins p and w. -/
def updB (N : Nb) (v : Nat) (rest : List Nat) (p w : Nat) : Bool := decide (p ≠ w) && (keyB N v rest p && keyB N v rest w)
def rowQ (N : Nb) (v : Nat) (rest : List Nat) (p q : Nat) : Nat → Bool := fun w => N p w || (decide (w < q) && updB N v rest p w)
theorem rowQ_zero (N : Nb) (v : Nat) (rest : List Nat) (p : Nat) : rowQ N v rest p 0 = N p := by funext w; simp [rowQ]
theorem rowQ_all (N : Nb) (v : Nat) (rest : List Nat) (p n : Nat) : maskOf (rowQ N v rest p n) n = maskOf (stepN N v rest p) n :=
  maskOf_congr fun w hw => by simp [rowQ, hw, stepN, updB]
theorem rowQ_skip {N : Nb} {v : Nat} {rest : List Nat} {p q : Nat} (h : updB N v rest p q = false) : rowQ N v rest p q = rowQ N v rest p (q + 1) := by
  funext w
  unfold rowQ
  by_cases hw : w = q
  · subst hw; simp [h]
  · have : decide (w < q + 1) = decide (w < q) := by congr 1; apply propext; omega
    rw [this]
theorem rowQ_set {N : Nb} {v : Nat} {rest : List Nat} {p q n : Nat} (h : updB N v rest p q = true) (hq : q < n) : maskOf (rowQ N v rest p q) n ||| 2 ^ q = maskOf (rowQ N v rest p (q + 1)) n := by
  rw [maskOf_or hq]
  refine maskOf_congr fun w _ => ?_
  unfold rowQ
  by_cases hw : w = q
  · subst hw; simp [h]
  · have : decide (w < q + 1) = decide (w < q) := by congr 1; apply propext; omega
    rw [this]; simp [hw]

set_option maxHeartbeats 4000000 in
theorem bags16 {n f : Nat} (hn : n ≤ 32) (hf : f ≤ 32) (A : Option Addr) (es : List Nat) (cap : Nat) (P : Option Addr) (l : List Int) (capP : Nat) (order : List Nat) (H : Heap) (nx : Nat) (hS : Sl H nx A (u32s es)) (hsm : Small es) (hle : es.length ≤ 64)
    (hP : Sl H nx P (i64s l)) (hP0 : Has H nx P) (hl : l.length ≤ 40) (hord : l ++ downTo f f = order.map fun (w : Nat) => (w : Int)) (hnd : order.Nodup) (hlt : ∀ w ∈ order, w < n) (hlen : order.length = n) :
    Ans Try.prog 16 [gv n A es.length cap, .int .i64 (f : Int), .slice P l.length capP] H nx fun r H' nx' => (∃ R capR, r = .slice R n capR ∧ Sl H' nx' R (bagsC (outs n (List.replicate n zeroBag) (adj es) order))) ∧ Ext H nx H' nx' := by
  refine spec16 ?_
  unfold F16
  have hE1 : Ext H nx (hs H nx (some (.cells [.int .i64 n, .slice A es.length cap] 0))) (nx + 1) := (Ext.refl H nx).new _ (Nat.le_refl _) (by omega)
  have hn6 : n ≤ 1000000 := by omega
  simp (disch := first | omega | assumption | exact shr_lt (by assumption) | exact ndiff32 (by assumption) | exact below_lt (by omega) | fail) only [wFld_eq, wNew_eq, dBox_agg, oneCells, wLd_none, wLd_2, ldP_cells, cellP_one, getH_same, forceV_eq, forceN_eq, Option.elim_some, List.getElem?_cons_zero, Yld.val, if_true, Nat.add_zero, and_true, true_and, or_false, dMsl_eq hn6, repeat_u32]
  generalize hK : hs (hs H nx (some (.cells [.int .i64 n, .slice A es.length cap] 0))) (nx + 1) (some (.cells (u32s (List.replicate n 0)) 0)) = K
  have kG : getH K nx = some (.cells [.int .i64 n, .slice A es.length cap] 0) := by rw [← hK, getH_ne _ (by omega), getH_same]
  have kA : getH K (nx + 1) = some (.cells (u32s (List.replicate n 0)) 0) := by rw [← hK, getH_same]
  have hEK : Ext H nx K (nx + 1) := by rw [← hK]; exact hE1.hs (by omega)
  refine wLoop_rule (m := n) (fun m L H' nx' => ∃ (i : Nat) (l : List Nat), m + i = n ∧ L = [.int .i64 (i : Int)] ∧ l.length = n ∧ (∀ v, v < n → l[v]? = some (if v < i then maskOf (adj es v) n else 0)) ∧
    getH H' (nx + 1) = some (.cells (u32s l) 0) ∧ Ext K (nx + 1) H' nx' ∧ nx + 2 ≤ nx') ?_ ⟨0, List.replicate n 0, rfl, rfl, by simp, fun v hv => by rw [List.getElem?_replicate, if_pos hv]; simp, kA, Ext.self (by omega), Nat.le_refl _⟩
  rintro m ih L H2 nx2 ⟨i, l2, hm, rfl, hl2, hval, hg, hE2, hnx2⟩ hih
  have g2 := (hE2.get nx (by omega)).trans kG
  have hEE2 : Ext H nx H2 nx2 := hEK.trans hE2
  simp (disch := first | omega | assumption | exact shr_lt (by assumption) | exact ndiff32 (by assumption) | exact below_lt (by omega) | fail) only [List.getD_cons_zero, wBin_lss, wIf_bool, ldP_cells, cellP_one, Option.elim_some, List.getElem?_cons_zero, wBin_add64, g2]
  by_cases hi : i < n
  case pos =>
    have hi' : (i : Int) < (n : Int) := by omega
    simp (disch := first | omega | assumption | exact shr_lt (by assumption) | exact ndiff32 (by assumption) | exact below_lt (by omega) | fail) only [decide_true, if_true, Nat.zero_add, wIdx_slice, Int.toNat_natCast, Nat.mul_one, hi', cellP_lit2]
    refine wCall_rule (near34 hn A es cap _ _ (hS.ext hEE2) hsm hle) ?_
    rintro _ H3 nx3 ⟨rfl, hE3⟩
    have hg3 := (hE3.get (nx + 1) (by omega)).trans hg
    have hnx3 := hE3.le
    have hjl : i < l2.length := by omega
    have hlen3 : (u32s l2).length = n := by rw [u32s_length]; exact hl2
    simp (disch := first | omega | assumption | exact shr_lt (by assumption) | exact ndiff32 (by assumption) | exact below_lt (by omega) | fail) only [Nat.zero_add, wSt_int, stP_cells, List.length_cons, List.length_nil, hg3, putL_u32s hjl, hlen3]
    refine ⟨by omega, hih (m - 1) _ _ _ (by omega) ⟨i + 1, l2.set i (maskOf (adj es i) n), by omega, by simp, by rw [List.length_set]; exact hl2, fun v hv => ?_, by rw [getH_same], ((hE2.trans (hE3.less (by omega))).hs (by omega)), by omega⟩⟩
    rw [List.getElem?_set]
    by_cases hvj : i = v
    · subst hvj; rw [if_pos rfl, if_pos (by omega), if_pos (by omega)]
    · rw [if_neg hvj, hval v hv]
      by_cases hvlt : v < i
      · rw [if_pos hvlt, if_pos (by omega)]
      · rw [if_neg hvlt, if_neg (by omega)]
  have hi' : ¬ (i : Int) < (n : Int) := by omega
  have hin : i = n := by omega
  subst hin
  simp (disch := first | omega | assumption | exact shr_lt (by assumption) | exact ndiff32 (by assumption) | exact below_lt (by omega) | fail) only [decide_false, if_false, Bool.false_eq_true, hi', dMsl_eq hn6, repeat_bag]
  clear hih
  have hE3 : Ext H2 nx2 (hs H2 nx2 (some (.cells (bagsC (List.replicate i zeroBag)) 0))) (nx2 + 1) := (Ext.refl _ _).new _ (Nat.le_refl _) (by omega)
  have hEE3 := hEE2.trans hE3
  refine wCall_rule (order35 hf P l capP _ _ (hP.ext hEE3) (hP0.ext hEE3) hl) ?_
  rintro r H4 nx4 ⟨hAcc, hE4⟩
  have hEE4 := hEE3.trans hE4
  have hnx4 := hE4.le
  have hll : l.length + f = i := by
    have := congrArg List.length hord
    simp [downTo_length] at this; omega
  rw [hord, hll] at hAcc
  have m0 : M16 H4 (nx + 1) nx2 l2 (List.replicate i zeroBag) H4 := by
    refine ⟨?_, ?_, fun _ _ _ => rfl⟩
    · rw [hE4.get (nx + 1) (by omega), getH_ne _ (by omega)]; exact hg
    · rw [hE4.get nx2 (by omega), getH_same]
  have hG4 : getH H4 nx = some (.cells [.int .i64 i, .slice A es.length cap] 0) := by rw [hE4.get nx (by omega), getH_ne _ (by omega)]; exact g2
  have fin : ∀ (out : List Bag) (near : List Nat) (H' : Heap) (nx' : Nat), M16 H4 (nx + 1) nx2 near out H' → out = outs i (List.replicate i zeroBag) (adj es) order → nx4 ≤ nx' →
      (∃ R capR, Value.slice (some ⟨nx2, 0, none⟩) i i = .slice R i capR ∧ Sl H' nx' R (bagsC (outs i (List.replicate i zeroBag) (adj es) order))) ∧ Ext H nx H' nx' := by
    intro out near H' nx' hM ho hx
    refine ⟨⟨_, _, rfl, fun q v hv => ⟨nx2, 0, bagsC out, rfl, by omega, by rw [rowOf, hM.out]; rfl, by rw [Nat.zero_add, ho]; exact hv⟩⟩, ⟨by have := hEE4.le; omega, fun q hq => ?_⟩⟩
    rw [hM.same q (by omega) (by have := hEE2.le; omega)]
    exact hEE4.get q hq
  rcases hAcc with ⟨_, ⟨h0, rfl⟩ | ⟨b, hb1, hb2, rfl, hb4⟩⟩
  · subst h0
    have ho : order = [] := List.length_eq_zero_iff.mp hlen
    subst ho
    refine wLoop_rule (m := 0) (fun m L H' nx' => L = [.int .i64 0] ∧ H4 = H' ∧ nx4 = nx') ?_ ⟨rfl, rfl, rfl⟩
    rintro m ih L _ _ ⟨rfl, rfl, rfl⟩ hih
    have h00 : ¬ (0 : Int) < ((0 : Nat) : Int) := by omega
    simp (disch := first | omega | assumption | exact shr_lt (by assumption) | exact ndiff32 (by assumption) | exact below_lt (by omega) | fail) only [List.getD_cons_zero, wBin_lss, wIf_bool, wLen_slice, decide_false, if_false, Bool.false_eq_true, wBin_add64, wBin_sub64, h00]
    exact fin _ _ _ _ m0 rfl (Nat.le_refl _)
  have hget : ∀ (j w : Nat), order[j]? = some w → (i64s (order.map fun (w : Nat) => (w : Int)))[j]? = some (.int .i64 (w : Int)) := fun j w h => i64s_get (by simp [h])
  refine wLoop_rule (m := i) (fun m L H' nx' => ∃ (j : Nat) (near : List Nat) (out : List Bag) (N : Nb), m + j = i ∧ L = [.int .i64 (j : Int)] ∧ M16 H4 (nx + 1) nx2 near out H' ∧ near.length = i ∧ (∀ v, v < i → near[v]? = some (maskOf (N v) i)) ∧ out.length = i ∧
    outs i out N (order.drop j) = outs i (List.replicate i zeroBag) (adj es) order ∧ nx4 ≤ nx') ?_ ⟨0, l2, List.replicate i zeroBag, adj es, rfl, rfl, m0, hl2, fun v hv => by rw [hval v hv, if_pos hv], by simp, rfl, Nat.le_refl _⟩
  rintro m ih L H5 nx5 ⟨j, near, out, N, hm5, rfl, hM, hnl, hnv, hol, hout, hx5⟩ hih
  simp (disch := first | omega | assumption | exact shr_lt (by assumption) | exact ndiff32 (by assumption) | exact below_lt (by omega) | fail) only [List.getD_cons_zero, wBin_lss, wIf_bool, wLen_slice, wBin_add64, wBin_sub64]
  by_cases hj : j < i
  case neg =>
    have hj' : ¬ (j : Int) < (i : Int) := by omega
    simp (disch := first | omega | assumption | exact shr_lt (by assumption) | exact ndiff32 (by assumption) | exact below_lt (by omega) | fail) only [decide_false, if_false, Bool.false_eq_true, hj']
    refine fin _ _ _ _ hM ?_ hx5
    rw [List.drop_of_length_le (by omega)] at hout
    exact hout
  have hj' : (j : Int) < (i : Int) := by omega
  obtain ⟨v, hv⟩ : ∃ v, order[j]? = some v := ⟨_, List.getElem?_eq_getElem (by omega)⟩
  have hvn : v < i := hlt v (List.mem_of_getElem? hv)
  have hb5 : getH H5 b = some (.cells (i64s (order.map fun (w : Nat) => (w : Int))) 1) := by rw [hM.same b (by omega) (by omega)]; exact hb4
  have hG5 : getH H5 nx = some (.cells [.int .i64 i, .slice A es.length cap] 0) := by rw [hM.same nx (by omega) (by omega)]; exact hG4
  have gv5 := hget j v hv
  simp (disch := first | omega | assumption | exact shr_lt (by assumption) | exact ndiff32 (by assumption) | exact below_lt (by omega) | fail) only [wLd_none, ldP_cells, cellP_one, Option.elim_some, decide_true, if_true, Nat.zero_add, wIdx_slice, Int.toNat_natCast, Nat.mul_one, hj', hb5, gv5]
  -- the key and the parent
  refine wLoop_rule (m := i - 1 - j) (fun m L H' nx' => ∃ (k : Nat), m + j = k ∧ k < i ∧ L = [.int .u32 ((maskOf (keyB N v (order.drop (k + 1))) i : Nat) : Int), .int .i64 (parB N v (order.drop (k + 1))), .int .i64 (k : Int)] ∧ H5 = H' ∧ nx4 ≤ nx') ?_ ⟨i - 1, by omega, by omega, ?_, rfl, hx5⟩
  rotate_left
  · have e : order.drop (i - 1 + 1) = [] := List.drop_of_length_le (by omega)
    rw [e, key_nil]
    have e2 : ((i - 1 : Nat) : Int) = (i : Int) - 1 := by omega
    rw [e2]; rfl
  rintro m6 ih6 L6 _ nx6 ⟨k, hm6, hki, rfl, rfl, hx6⟩ hih6
  simp (disch := first | omega | assumption | exact shr_lt (by assumption) | exact ndiff32 (by assumption) | exact below_lt (by omega) | fail) only [List.getD_cons_zero, List.getD_cons_succ, wBin_gtr, wIf_bool, wLd_none, Nat.zero_add, wBin_sub64, wIdx_slice, Int.toNat_natCast, Nat.mul_one]
  by_cases hk : j < k
  case pos =>
    have hk' : (k : Int) > (j : Int) := by omega
    obtain ⟨w, hw⟩ : ∃ w, order[k]? = some w := ⟨_, List.getElem?_eq_getElem (by omega)⟩
    have hwn : w < i := hlt w (List.mem_of_getElem? hw)
    have gw := hget k w hw
    have gnear := u32s_get (hnv v hvn)
    have hm32 := maskOf32 hn (N v)
    have hbit : (maskOf (N v) i).testBit w = N v w := by rw [maskOf_bit]; simp [hwn]
    have hkey32 := maskOf32 hn (keyB N v (order.drop (k + 1)))
    have hkc := key_cons (N := N) (v := v) hwn (not_mem_drop hnd hw)
    have hpc := par_cons (N := N) (v := v) (x := w) (rest := order.drop (k + 1))
    rw [← drop_get hw] at hkc hpc
    have hk1 : k - 1 + 1 = k := by omega
    simp (disch := first | omega | assumption | exact shr_lt (by assumption) | exact ndiff32 (by assumption) | exact below_lt (by omega) | fail) only [List.getD_cons_zero, List.getD_cons_succ, wIf_bool, ldP_cells, cellP_one, Option.elim_some, decide_true, if_true, if_false, Bool.false_eq_true, true_and, hk', wJoin_eq, hb5, hM.near, gnear, gw]
    refine wCall_rule (has29 hm32 _ _) ?_
    rintro _ _ _ ⟨rfl, rfl, rfl⟩
    rw [hbit]
    cases hN : N v w with
    | false =>
      rw [hN] at hkc hpc
      simp (disch := first | omega | assumption | exact shr_lt (by assumption) | exact ndiff32 (by assumption) | exact below_lt (by omega) | fail) only [wIf_bool, ldP_cells, cellP_one, Option.elim_some, if_false, Bool.false_eq_true, wBin_shl32, hb5, gw]
      refine hih6 (m6 - 1) _ _ _ (by omega) ⟨k - 1, by omega, by omega, ?_, rfl, by omega⟩
      rw [hk1, hkc, hpc]
      have e2 : ((k - 1 : Nat) : Int) = (k : Int) - 1 := by omega
      rw [e2]; rfl
    | true =>
      rw [hN] at hkc hpc
      have hs32 := maskOf32 hn (keyB N v (order.drop k))
      rw [hkc, if_pos rfl] at hs32
      simp (disch := first | omega | assumption | exact shr_lt (by assumption) | exact ndiff32 (by assumption) | exact below_lt (by omega) | fail) only [wIf_bool, ldP_cells, cellP_one, Option.elim_some, if_true, wBin_shl32, hb5, gw, wBin_add32]
      refine hih6 (m6 - 1) _ _ _ (by omega) ⟨k - 1, by omega, by omega, ?_, rfl, by omega⟩
      rw [hk1, hkc, hpc]
      have e2 : ((k - 1 : Nat) : Int) = (k : Int) - 1 := by omega
      rw [e2]; rfl
  have hkj : k = j := by omega
  subst hkj
  have hk' : ¬ (k : Int) > (k : Int) := by omega
  generalize hrest : order.drop (k + 1) = rest
  have hbld : ∀ kk, wBuild [.int .i64 0, .int .u32 0, .int .i64 0] [(0, 1), (1, 1), (2, 1)] [(0, .int .i64 (v : Int)), (1, .int .u32 ((maskOf (keyB N v rest) i : Nat) : Int)), (2, .int .i64 (parB N v rest))] kk = kk (.agg ⟨[.int .i64 (v : Int), .int .u32 ((maskOf (keyB N v rest) i : Nat) : Int), .int .i64 (parB N v rest)]⟩) := fun _ => rfl
  have hset : putL (bagsC out) (v * 3) [.int .i64 (v : Int), .int .u32 ((maskOf (keyB N v rest) i : Nat) : Int), .int .i64 (parB N v rest)] = bagsC (out.set v (bagOf i N v rest)) := bagsC_set (b := bagOf i N v rest) (by omega)
  have hbl : (bagsC out).length = i * 3 := by rw [bagsC_length, hol]
  simp (disch := first | omega | assumption | exact shr_lt (by assumption) | exact ndiff32 (by assumption) | exact below_lt (by omega) | fail) only [oneCells, decide_false, if_true, if_false, Bool.false_eq_true, Nat.zero_add, and_self, wSt_agg, stP_cells, List.length_cons, List.length_nil, Nat.reduceAdd, hk', hbld, hM.out, hset, hbl]
  refine ⟨by omega, ?_⟩
  have hM7 := hM.setOut (by omega) (out.set v (bagOf i N v rest))
  have hol7 : (out.set v (bagOf i N v rest)).length = i := by rw [List.length_set]; exact hol
  have hout7 : outs i (out.set v (bagOf i N v rest)) (stepN N v rest) rest = outs i (List.replicate i zeroBag) (adj es) order := by
    rw [← hout, drop_get hv, hrest]; rfl
  have hkey32 := maskOf32 hn (keyB N v rest)
  clear hih6
  refine wLoop_rule (m := i) (fun m L H' nx' => ∃ (p : Nat) (near : List Nat), m + p = i ∧ L = [.int .i64 (p : Int)] ∧ M16 H4 (nx + 1) nx2 near (out.set v (bagOf i N v rest)) H' ∧ near.length = i ∧ (∀ u, u < i → near[u]? = some (maskOf (if u < p then stepN N v rest u else N u) i)) ∧ nx4 ≤ nx') ?_ ⟨0, near, rfl, rfl, hM7, hnl, fun u hu => by rw [hnv u hu]; simp, hx6⟩
  rintro m8 ih8 L8 H8 nx8 ⟨p, near8, hm8, rfl, hM8, hnl8, hnv8, hx8⟩ hih8
  have hG8 : getH H8 nx = some (.cells [.int .i64 i, .slice A es.length cap] 0) := by rw [hM8.same nx (by omega) (by omega)]; exact hG4
  simp (disch := first | omega | assumption | exact shr_lt (by assumption) | exact ndiff32 (by assumption) | exact below_lt (by omega) | fail) only [List.getD_cons_zero, wBin_lss, wIf_bool, ldP_cells, cellP_one, Option.elim_some, List.getElem?_cons_zero, wBin_add64, hG8]
  by_cases hp : p < i
  case neg =>
    have hp' : ¬ (p : Int) < (i : Int) := by omega
    simp (disch := first | omega | assumption | exact shr_lt (by assumption) | exact ndiff32 (by assumption) | exact below_lt (by omega) | fail) only [decide_false, if_false, Bool.false_eq_true, hp']
    refine hih (m - 1) _ _ _ (by omega) ⟨k + 1, near8, _, stepN N v rest, by omega, by simp, hM8, hnl8, fun u hu => ?_, hol7, by rw [hrest]; exact hout7, hx8⟩
    rw [hnv8 u hu, if_pos (by omega)]
  have hp' : (p : Int) < (i : Int) := by omega
  simp (disch := first | omega | assumption | exact shr_lt (by assumption) | exact ndiff32 (by assumption) | exact below_lt (by omega) | fail) only [wLd_none, decide_true, if_true, Nat.zero_add, wIdx_slice, Int.toNat_natCast, Nat.mul_one, hp']
  refine wLoop_rule (m := i) (fun m L H' nx' => ∃ (q : Nat) (near : List Nat), m + q = i ∧ L = [.int .i64 (q : Int)] ∧ M16 H4 (nx + 1) nx2 near (out.set v (bagOf i N v rest)) H' ∧ near.length = i ∧ (∀ u, u < i → near[u]? = some (maskOf (if u < p then stepN N v rest u else if u = p then rowQ N v rest p q else N u) i)) ∧ nx4 ≤ nx') ?_ ⟨0, near8, rfl, rfl, hM8, hnl8, fun u hu => by
    rw [hnv8 u hu]
    by_cases h1 : u < p
    · rw [if_pos h1, if_pos h1]
    · rw [if_neg h1, if_neg h1]
      by_cases h2 : u = p
      · subst h2; rw [if_pos rfl, rowQ_zero]
      · rw [if_neg h2], hx8⟩
  rintro m9 ih9 L9 H9 nx9 ⟨q, near9, hm9, rfl, hM9, hnl9, hnv9, hx9⟩ hih9
  have hG9 : getH H9 nx = some (.cells [.int .i64 i, .slice A es.length cap] 0) := by rw [hM9.same nx (by omega) (by omega)]; exact hG4
  simp (disch := first | omega | assumption | exact shr_lt (by assumption) | exact ndiff32 (by assumption) | exact below_lt (by omega) | fail) only [List.getD_cons_zero, wBin_lss, wBin_neq, wIf_bool, wGuard_true, ldP_cells, cellP_one, Option.elim_some, List.getElem?_cons_zero, wBin_add64, hG9]
  by_cases hq : q < i
  case neg =>
    have hq' : ¬ (q : Int) < (i : Int) := by omega
    have hqi : q = i := by omega
    subst hqi
    simp (disch := first | omega | assumption | exact shr_lt (by assumption) | exact ndiff32 (by assumption) | exact below_lt (by omega) | fail) only [decide_false, if_false, Bool.false_eq_true, hq']
    refine hih8 (m8 - 1) _ _ _ (by omega) ⟨p + 1, near9, by omega, by simp, hM9, hnl9, fun u hu => ?_, hx9⟩
    rw [hnv9 u hu]
    by_cases h1 : u < p
    · rw [if_pos h1, if_pos (by omega)]
    · rw [if_neg h1]
      by_cases h2 : u = p
      · subst h2; rw [if_pos rfl, if_pos (by omega), rowQ_all]
      · rw [if_neg h2, if_neg (by omega)]
  have hq' : (q : Int) < (i : Int) := by omega
  have kp : (maskOf (keyB N v rest) i).testBit p = keyB N v rest p := by rw [maskOf_bit]; simp [hp]
  have kq : (maskOf (keyB N v rest) i).testBit q = keyB N v rest q := by rw [maskOf_bit]; simp [hq]
  have skip : updB N v rest p q = false → ∀ u, u < i → near9[u]? = some (maskOf (if u < p then stepN N v rest u else if u = p then rowQ N v rest p (q + 1) else N u) i) := by
    intro hu u hui
    rw [hnv9 u hui]
    by_cases h1 : u < p
    · rw [if_pos h1, if_pos h1]
    · rw [if_neg h1, if_neg h1]
      by_cases h2 : u = p
      · rw [if_pos h2, if_pos h2, rowQ_skip hu]
      · rw [if_neg h2, if_neg h2]
  by_cases hpq : p = q
  · have d1 : decide ((p : Int) ≠ (q : Int)) = false := by simp [hpq]
    simp (disch := first | omega | assumption | exact shr_lt (by assumption) | exact ndiff32 (by assumption) | exact below_lt (by omega) | fail) only [List.getD_cons_zero, wIf_bool, decide_true, if_true, if_false, Bool.false_eq_true, wBin_shl32, hq', wJoin_eq, d1]
    exact hih9 (m9 - 1) _ _ _ (by omega) ⟨q + 1, near9, by omega, by simp, hM9, hnl9, skip (by simp [updB, hpq]), hx9⟩
  have d1 : decide ((p : Int) ≠ (q : Int)) = true := by simp; omega
  simp (disch := first | omega | assumption | exact shr_lt (by assumption) | exact ndiff32 (by assumption) | exact below_lt (by omega) | fail) only [List.getD_cons_zero, wIf_bool, decide_true, if_true, if_false, Bool.false_eq_true, wBin_shl32, hq', wJoin_eq, d1]
  refine wCall_rule (has29 hkey32 _ _) ?_
  rintro _ _ _ ⟨rfl, rfl, rfl⟩
  rw [kp]
  cases hkp : keyB N v rest p with
  | false =>
    simp (disch := first | omega | assumption | exact shr_lt (by assumption) | exact ndiff32 (by assumption) | exact below_lt (by omega) | fail) only [wGuard_true, if_false, Bool.false_eq_true]
    exact hih9 (m9 - 1) _ _ _ (by omega) ⟨q + 1, near9, by omega, by simp, hM9, hnl9, skip (by simp [updB, hkp]), hx9⟩
  | true =>
    simp (disch := first | omega | assumption | exact shr_lt (by assumption) | exact ndiff32 (by assumption) | exact below_lt (by omega) | fail) only [wGuard_true, if_true]
    refine wCall_rule (has29 hkey32 _ _) ?_
    rintro _ _ _ ⟨rfl, rfl, rfl⟩
    rw [kq]
    cases hkq : keyB N v rest q with
    | false =>
      simp (disch := first | omega | assumption | exact shr_lt (by assumption) | exact ndiff32 (by assumption) | exact below_lt (by omega) | fail) only [wIf_bool, if_false, Bool.false_eq_true]
      exact hih9 (m9 - 1) _ _ _ (by omega) ⟨q + 1, near9, by omega, by simp, hM9, hnl9, skip (by simp [updB, hkq]), hx9⟩
    | true =>
      have hcur := hnv9 p hp
      rw [if_neg (by omega), if_pos rfl] at hcur
      have gcur := u32s_get hcur
      have hc32 := maskOf32 hn (rowQ N v rest p q)
      have hq32 : 2 ^ q < 4294967296 := pow32 (by omega)
      have hpl : p < near9.length := by omega
      have hlen9 : (u32s near9).length = i := by rw [u32s_length]; exact hnl9
      have hupd : updB N v rest p q = true := by simp [updB, hpq, hkp, hkq]
      simp (disch := first | omega | assumption | exact shr_lt (by assumption) | exact ndiff32 (by assumption) | exact below_lt (by omega) | fail) only [wIf_bool, ldP_cells, cellP_one, Option.elim_some, if_true, Nat.zero_add, true_and, wSt_int, stP_cells, wBin_or32, List.length_cons, List.length_nil, hM9.near, gcur, putL_u32s hpl, hlen9]
      refine ⟨by omega, hih9 (m9 - 1) _ _ _ (by omega) ⟨q + 1, near9.set p (maskOf (rowQ N v rest p q) i ||| 2 ^ q), by omega, by simp, hM9.setNear (by omega) _, by rw [List.length_set]; exact hnl9, fun u hu => ?_, by omega⟩⟩
      rw [List.getElem?_set]
      by_cases h2 : p = u
      · subst h2; rw [if_pos rfl, if_pos hpl, if_neg (by omega), if_pos rfl, rowQ_set hupd hq]
      · rw [if_neg h2, hnv9 u hu]
        by_cases h1 : u < p
        · rw [if_pos h1, if_pos h1]
        · rw [if_neg h1, if_neg h1, if_neg (fun e => h2 e.symm), if_neg (fun e => h2 e.symm)]
end Go.Proofs.Ytaieijjfabbfeaa

set_option linter.unusedSimpArgs false
set_option linter.unusedVariables false
set_option linter.unusedSectionVars false
namespace Go.Proofs.Ytaieijjfabbfeaa
open Go.Clo

structure NbOK (N : Nb) : Prop where
  symm : ∀ a b, N a b = N b a
  irr : ∀ a, N a a = false
theorem adj_ok (es : List Nat) : NbOK (adj es) := ⟨adj_symm es, adj_self es⟩
theorem step_ok {N : Nb} (h : NbOK N) (v : Nat) (rest : List Nat) : NbOK (stepN N v rest) := by
  refine ⟨fun a b => ?_, fun a => ?_⟩
  · unfold stepN
    rw [h.symm a b, Bool.and_comm (keyB N v rest a)]
    have : decide (a ≠ b) = decide (b ≠ a) := by congr 1; apply propext; exact ne_comm
    rw [this]
  · simp [stepN, h.irr]

theorem key_self {N : Nb} (h : NbOK N) (v n : Nat) (rest : List Nat) : maskOf (keyB N v (v :: rest)) n = maskOf (keyB N v rest) n :=
  maskOf_congr fun w _ => by
    unfold keyB
    by_cases hw : w = v
    · subst hw; simp [h.irr]
    · simp [hw]
theorem nb_skip {N : Nb} (h : NbOK N) {v u n : Nat} {rest : List Nat} (hu : u ∈ rest) (hk : keyB N v rest u = false) : maskOf (keyB N u (v :: rest)) n = maskOf (keyB (stepN N v rest) u rest) n :=
  maskOf_congr fun w _ => by
    have hvu : N v u = false := by simpa [keyB, hu] using hk
    have huv : N u v = false := by rw [h.symm]; exact hvu
    simp only [keyB, stepN, hvu, List.mem_cons, Bool.false_and, Bool.and_false, Bool.or_false]
    by_cases hw : w = v
    · subst hw; simp [huv]
    · simp [hw]
theorem nb_step {N : Nb} (h : NbOK N) {v u n : Nat} {rest : List Nat} (hvr : v ∉ rest) (hk : keyB N v rest u = true) :
    ndiff (maskOf (keyB N u (v :: rest)) n ||| maskOf (keyB N v rest) n) (2 ^ u ||| 2 ^ v) = maskOf (keyB (stepN N v rest) u rest) n := by
  apply Nat.eq_of_testBit_eq
  intro w
  rw [ndiff_bit, Nat.testBit_or, Nat.testBit_or, maskOf_bit, maskOf_bit, maskOf_bit, Nat.testBit_two_pow, Nat.testBit_two_pow]
  have hk1 := hk
  simp only [keyB, Bool.and_eq_true, decide_eq_true_eq] at hk1
  by_cases hwn : w < n
  · simp only [hwn, decide_true, Bool.true_and]
    by_cases hwu : w = u
    · subst hwu
      simp [keyB, stepN, h.irr]
    · have e1 : decide (u = w) = false := by simp; omega
      have e3 : decide (u ≠ w) = true := by simp; omega
      by_cases hwv : w = v
      · subst hwv
        simp [keyB, hvr]
      · have e2 : decide (v = w) = false := by simp; omega
        simp only [e1, e2, Bool.or_false, Bool.not_false, Bool.and_true]
        simp only [keyB, stepN, e3, List.mem_cons, hwv, false_or, Bool.true_and]
        have : (N v u && decide (u ∈ rest)) = true := hk
        rw [this, Bool.true_and]
        cases decide (w ∈ rest) <;> simp
  · simp [hwn]

/-- The parent, found so far. -/
def ParI (N : Nb) (v : Nat) (order rest : List Nat) (u : Nat) (par : Int) : Prop :=
  (par = -1 ∧ ∀ w, w < u → keyB N v rest w = false) ∨ ∃ p jp : Nat, par = p ∧ order[jp]? = some p ∧ keyB N v rest p = true ∧ ∀ w jw : Nat, w < u → order[jw]? = some w → keyB N v rest w = true → jp ≤ jw

theorem nodup_at {l : List Nat} (h : l.Nodup) {i j x : Nat} (hi : l[i]? = some x) (hj : l[j]? = some x) : i = j := by
  rcases Nat.lt_trichotomy i j with hl | he | hg
  · have := (List.pairwise_iff_getElem.mp h) i j (lt_len hi) (lt_len hj) hl
    exact absurd (by rw [(List.getElem?_eq_some_iff.mp hi).2, (List.getElem?_eq_some_iff.mp hj).2]) this
  · exact he
  · have := (List.pairwise_iff_getElem.mp h) j i (lt_len hj) (lt_len hi) hg
    exact absurd (by rw [(List.getElem?_eq_some_iff.mp hi).2, (List.getElem?_eq_some_iff.mp hj).2]) this
theorem par_min {N : Nb} {v n i : Nat} {order : List Nat} {par : Int} (hnd : order.Nodup) (hlt : ∀ w ∈ order, w < n) (h : ParI N v order (order.drop (i + 1)) n par) : par = parB N v (order.drop (i + 1)) := by
  unfold parB
  cases hf : (order.drop (i + 1)).find? (N v) with
  | none =>
    rw [List.find?_eq_none] at hf
    rcases h with ⟨h, _⟩ | ⟨p, jp, _, _, hk, _⟩
    · exact h
    · simp only [keyB, Bool.and_eq_true, decide_eq_true_eq] at hk
      exact absurd hk.1 (hf p hk.2)
  | some w0 =>
    obtain ⟨hw0, t, ht, hte, hbefore⟩ := List.find?_eq_some_iff_getElem.mp hf
    have h0 : order[i + 1 + t]? = some w0 := by
      rw [← hte, ← List.getElem?_drop]; exact List.getElem?_eq_getElem ht
    have hmem : w0 ∈ order.drop (i + 1) := hte ▸ List.getElem_mem ht
    have hk0 : keyB N v (order.drop (i + 1)) w0 = true := by simp [keyB, hw0, hmem]
    have hw0n := hlt w0 (List.mem_of_mem_drop hmem)
    rcases h with ⟨_, h⟩ | ⟨p, jp, rfl, hjp, hk, hmin⟩
    · rw [h w0 hw0n] at hk0; cases hk0
    · have hle := hmin w0 _ hw0n h0 hk0
      simp only [keyB, Bool.and_eq_true, decide_eq_true_eq] at hk
      obtain ⟨s, hs, hse⟩ := List.getElem_of_mem hk.2
      have hps : order[i + 1 + s]? = some p := by
        rw [← hse, ← List.getElem?_drop]; exact List.getElem?_eq_getElem hs
      have hj := nodup_at hnd hjp hps
      by_cases hst : s < t
      · have := hbefore s hst
        rw [hse] at this
        simp [hk.1] at this
      · have : s = t := by omega
        subst this
        rw [← hse, hte]
end Go.Proofs.Ytaieijjfabbfeaa

set_option linter.unusedSimpArgs false
set_option linter.unusedVariables false
set_option linter.unusedSectionVars false
namespace Go.Proofs.Ytaieijjfabbfeaa
open Go.Clo
set_option maxRecDepth 100000
/-! 13: ordinal/elimination.Bags -/
def d13 : D :=
  (.seq
    (.ops [
        (none, [⟨none, some 3, .a (.box (.s 0))⟩,
        ⟨none, some 6, .p (.mv (.c (.slice none 0 0)))⟩,
        ⟨none, some 7, .p (.mv (.c (.int .i64 0)))⟩])] (.one .nil))
    (.seq
      (.seq
        (.ops [
            (none, [⟨none, some 22, .r (.ld (.s 3) (some 2))⟩,
            ⟨none, some 23, .p (.mv (.s 1))⟩,
            ⟨none, some 24, .e (.call (.c (.func (.func 27) ⟨[]⟩ ⟨[]⟩)) [.s 22, .s 23])⟩,
            ⟨none, some 8, .p (.mv (.s 24))⟩])] (.one .nil))
        (.seq
          (.ops [
              (none, [⟨none, some 25, .p (.mv (.s 8))⟩,
              ⟨none, some 26, .p (.bin .neq (.s 25) (.c (.int .i64 0)))⟩])] (.one .nil))
          (.cond (.s 26)
            (.seq
              (.ops [
                  (none, [⟨none, some 27, .p (.mv (.s 8))⟩,
                  ⟨none, some 6, .p (.mv (.c (.slice none 0 0)))⟩,
                  ⟨none, some 7, .p (.mv (.s 27))⟩])] (.one .nil))
              .ret)
            .skip)))
      (.seq
        (.ops [
            (none, [⟨none, some 9, .p (.mv (.c (.int .u32 0)))⟩])] (.one .nil))
        (.seq
          (.seq
            (.ops [
                (none, [⟨none, some 28, .p (.mv (.s 2))⟩,
                ⟨none, some 29, .r (.len (.s 28) 0)⟩,
                ⟨none, some 30, .p (.mv (.c (.int .i64 0)))⟩])] (.one .nil))
            (.block 0
              (.loop [9, 30] [6, 7, 11, 31, 32, 33, 34, 35, 36, 37, 38, 39, 40, 41, 42, 43, 44, 45, 46, 47, 48, 49, 50, 51, 52, 53, 54]
                (.seq
                  (.ops [
                      (none, [⟨none, some 31, .p (.bin .lss (.s 30) (.s 29))⟩])] (.one .nil))
                  (.seq
                    (.cond (.s 31)
                      .skip
                      (.exit 0))
                    (.seq
                      (.block 1
                        (.seq
                          (.ops [
                              (none, [⟨none, some 32, .p (.idx (.s 28) (.s 30) none 1)⟩,
                              ⟨none, some 33, .r (.ld (.s 32) none)⟩,
                              ⟨none, some 11, .p (.mv (.s 33))⟩])] (.one .nil))
                          (.seq
                            (.join [49] [34, 35, 36, 37, 38, 39, 40, 41, 42, 43, 44, 45, 46, 47, 48]
                              (.ops [
                                  (none, [⟨none, some 34, .p (.mv (.s 11))⟩,
                                  ⟨none, some 35, .p (.mv (.s 1))⟩,
                                  ⟨none, some 36, .p (.bin .lss (.s 34) (.s 35))⟩,
                                  ⟨none, some 37, .p (.mv (.s 36))⟩]),
                                  (some (37, false), [⟨none, some 38, .p (.mv (.s 11))⟩,
                                  ⟨none, some 39, .p (.fld (.s 3) 0)⟩,
                                  ⟨none, some 40, .r (.ld (.s 39) none)⟩,
                                  ⟨none, some 41, .p (.bin .geq (.s 38) (.s 40))⟩]),
                                  (none, [⟨none, some 42, .p (.pick (.s 37) (.c (.bool true)) (.s 41))⟩,
                                  ⟨none, some 43, .p (.mv (.s 42))⟩]),
                                  (some (43, false), [⟨none, some 44, .p (.mv (.s 9))⟩,
                                  ⟨none, some 45, .p (.mv (.s 11))⟩,
                                  ⟨none, some 46, .p (.bin .shr (.s 44) (.s 45))⟩,
                                  ⟨none, some 47, .p (.bin .and (.s 46) (.c (.int .u32 1)))⟩,
                                  ⟨none, some 48, .p (.bin .eql (.s 47) (.c (.int .u32 1)))⟩]),
                                  (none, [⟨none, some 49, .p (.pick (.s 43) (.c (.bool true)) (.s 48))⟩])] (.one (.tst (.one (.tst (.one .nil) (.one .nil))) (.one (.one (.one .nil))))))
                              (.cond (.s 49)
                                (.seq
                                  (.ops [
                                      (none, [⟨none, some 6, .p (.mv (.c (.slice none 0 0)))⟩,
                                      ⟨none, some 7, .p (.mv (.c (.int .i64 1)))⟩])] (.one .nil))
                                  .ret)
                                .skip))
                            (.ops [
                                (none, [⟨none, some 50, .p (.mv (.s 9))⟩,
                                ⟨none, some 51, .p (.mv (.s 11))⟩,
                                ⟨none, some 52, .p (.bin .shl (.c (.int .u32 1)) (.s 51))⟩,
                                ⟨none, some 53, .p (.bin .or (.s 50) (.s 52))⟩,
                                ⟨none, some 9, .p (.mv (.s 53))⟩])] (.one .nil)))))
                      (.ops [
                          (none, [⟨none, some 54, .p (.bin .add (.s 30) (.c (.int .i64 1)))⟩,
                          ⟨none, some 30, .p (.mv (.s 54))⟩])] (.one .nil))))))))
          (.seq
            (.seq
              (.ops [
                  (none, [⟨none, some 55, .p (.mv (.s 2))⟩,
                  ⟨none, some 56, .r (.len (.s 55) 0)⟩,
                  ⟨none, some 57, .p (.fld (.s 3) 0)⟩,
                  ⟨none, some 58, .r (.ld (.s 57) none)⟩,
                  ⟨none, some 59, .p (.mv (.s 1))⟩,
                  ⟨none, some 60, .p (.bin .sub (.s 58) (.s 59))⟩,
                  ⟨none, some 61, .p (.bin .neq (.s 56) (.s 60))⟩])] (.one .nil))
              (.cond (.s 61)
                (.seq
                  (.ops [
                      (none, [⟨none, some 6, .p (.mv (.c (.slice none 0 0)))⟩,
                      ⟨none, some 7, .p (.mv (.c (.int .i64 1)))⟩])] (.one .nil))
                  .ret)
                .skip))
            (.seq
              (.ops [
                  (none, [⟨none, some 12, .a (.alloc [.int .i64 0, .int .i64 0, .int .i64 0, .int .i64 0, .int .i64 0, .int .i64 0, .int .i64 0, .int .i64 0, .int .i64 0, .int .i64 0, .int .i64 0, .int .i64 0, .int .i64 0, .int .i64 0, .int .i64 0, .int .i64 0, .int .i64 0, .int .i64 0, .int .i64 0, .int .i64 0, .int .i64 0, .int .i64 0, .int .i64 0, .int .i64 0, .int .i64 0, .int .i64 0, .int .i64 0, .int .i64 0, .int .i64 0, .int .i64 0, .int .i64 0, .int .i64 0])⟩,
                  ⟨none, some 13, .a (.alloc [.int .i64 0, .int .i64 0, .int .i64 0, .int .i64 0, .int .i64 0, .int .i64 0, .int .i64 0, .int .i64 0, .int .i64 0, .int .i64 0, .int .i64 0, .int .i64 0, .int .i64 0, .int .i64 0, .int .i64 0, .int .i64 0, .int .i64 0, .int .i64 0, .int .i64 0, .int .i64 0, .int .i64 0, .int .i64 0, .int .i64 0, .int .i64 0, .int .i64 0, .int .i64 0, .int .i64 0, .int .i64 0, .int .i64 0, .int .i64 0, .int .i64 0, .int .i64 0])⟩])] (.one .nil))
              (.seq
                (.ops [
                    (none, [⟨none, some 62, .p (.slA (.s 12) 32 1 none none none)⟩,
                    ⟨none, some 63, .p (.mv (.s 2))⟩,
                    ⟨none, some 64, .e (.copy (.s 62) (.s 63) 1)⟩])] (.one .nil))
                (.seq
                  (.seq
                    (.ops [
                        (none, [⟨none, some 65, .p (.mv (.s 1))⟩,
                        ⟨none, some 66, .p (.mv (.c (.int .i64 0)))⟩])] (.one .nil))
                    (.block 2
                      (.loop [66] [14, 67, 68, 69, 70, 71, 72, 73, 74, 75, 76, 77, 78]
                        (.seq
                          (.ops [
                              (none, [⟨none, some 67, .p (.bin .lss (.s 66) (.s 65))⟩])] (.one .nil))
                          (.seq
                            (.cond (.s 67)
                              .skip
                              (.exit 2))
                            (.seq
                              (.block 3
                                (.seq
                                  (.ops [
                                      (none, [⟨none, some 68, .p (.mv (.s 66))⟩,
                                      ⟨none, some 14, .p (.mv (.s 68))⟩])] (.one .nil))
                                  (.ops [
                                      (none, [⟨none, some 69, .p (.mv (.s 2))⟩,
                                      ⟨none, some 70, .r (.len (.s 69) 0)⟩,
                                      ⟨none, some 71, .p (.mv (.s 14))⟩,
                                      ⟨none, some 72, .p (.bin .add (.s 70) (.s 71))⟩,
                                      ⟨none, some 73, .p (.mv (.s 1))⟩,
                                      ⟨none, some 74, .p (.bin .sub (.s 73) (.c (.int .i64 1)))⟩,
                                      ⟨none, some 75, .p (.mv (.s 14))⟩,
                                      ⟨none, some 76, .p (.bin .sub (.s 74) (.s 75))⟩,
                                      ⟨none, some 77, .p (.idx (.s 12) (.s 72) (some 32) 1)⟩,
                                      ⟨none, none, .e (.st (.s 77) (.s 76) 1)⟩])] (.one .nil))))
                              (.ops [
                                  (none, [⟨none, some 78, .p (.bin .add (.s 66) (.c (.int .i64 1)))⟩,
                                  ⟨none, some 66, .p (.mv (.s 78))⟩])] (.one .nil))))))))
                  (.seq
                    (.seq
                      (.ops [
                          (none, [⟨none, some 79, .p (.fld (.s 3) 0)⟩,
                          ⟨none, some 80, .r (.ld (.s 79) none)⟩,
                          ⟨none, some 81, .p (.mv (.c (.int .i64 0)))⟩])] (.one .nil))
                      (.block 4
                        (.loop [81] [15, 82, 83, 84, 85, 86, 87, 88, 89]
                          (.seq
                            (.ops [
                                (none, [⟨none, some 82, .p (.bin .lss (.s 81) (.s 80))⟩])] (.one .nil))
                            (.seq
                              (.cond (.s 82)
                                .skip
                                (.exit 4))
                              (.seq
                                (.block 5
                                  (.seq
                                    (.ops [
                                        (none, [⟨none, some 83, .p (.mv (.s 81))⟩,
                                        ⟨none, some 15, .p (.mv (.s 83))⟩])] (.one .nil))
                                    (.ops [
                                        (none, [⟨none, some 84, .p (.mv (.s 15))⟩,
                                        ⟨none, some 85, .p (.idx (.s 12) (.s 84) (some 32) 1)⟩,
                                        ⟨none, some 86, .r (.ld (.s 85) none)⟩,
                                        ⟨none, some 87, .p (.mv (.s 15))⟩,
                                        ⟨none, some 88, .p (.idx (.s 13) (.s 86) (some 32) 1)⟩,
                                        ⟨none, none, .e (.st (.s 88) (.s 87) 1)⟩])] (.one .nil))))
                                (.ops [
                                    (none, [⟨none, some 89, .p (.bin .add (.s 81) (.c (.int .i64 1)))⟩,
                                    ⟨none, some 81, .p (.mv (.s 89))⟩])] (.one .nil))))))))
                    (.seq
                      (.ops [
                          (none, [⟨none, some 90, .r (.ld (.s 3) (some 2))⟩,
                          ⟨none, some 91, .e (.call (.c (.func (.func 33) ⟨[]⟩ ⟨[]⟩)) [.s 90])⟩,
                          ⟨none, some 16, .a (.alloc [.int .u32 0, .int .u32 0, .int .u32 0, .int .u32 0, .int .u32 0, .int .u32 0, .int .u32 0, .int .u32 0, .int .u32 0, .int .u32 0, .int .u32 0, .int .u32 0, .int .u32 0, .int .u32 0, .int .u32 0, .int .u32 0, .int .u32 0, .int .u32 0, .int .u32 0, .int .u32 0, .int .u32 0, .int .u32 0, .int .u32 0, .int .u32 0, .int .u32 0, .int .u32 0, .int .u32 0, .int .u32 0, .int .u32 0, .int .u32 0, .int .u32 0, .int .u32 0])⟩,
                          ⟨none, none, .e (.st (.s 16) (.s 91) 32)⟩])] (.one .nil))
                      (.seq
                        (.ops [
                            (none, [⟨none, some 92, .p (.fld (.s 3) 0)⟩,
                            ⟨none, some 93, .r (.ld (.s 92) none)⟩,
                            ⟨none, some 94, .a (.msl (.s 93) (.s 93) [.int .i64 0, .int .u32 0, .int .i64 0])⟩,
                            ⟨none, some 17, .p (.mv (.s 94))⟩])] (.one .nil))
                        (.seq
                          (.seq
                            (.ops [
                                (none, [⟨none, some 95, .p (.fld (.s 3) 0)⟩,
                                ⟨none, some 96, .r (.ld (.s 95) none)⟩,
                                ⟨none, some 97, .p (.mv (.c (.int .i64 0)))⟩])] (.one .nil))
                            (.block 6
                              (.loop [97] [18, 19, 20, 21, 98, 99, 100, 101, 102, 103, 104, 105, 106, 107, 108, 109, 110, 111, 112, 113, 114, 115, 116, 117, 118, 119, 120, 121, 122, 123, 124, 125, 126, 127, 128, 129, 130, 131, 132, 133, 134, 135, 136, 137, 138, 139, 140, 141, 142, 143, 144, 145, 146, 147, 148, 149, 150, 151, 152, 153]
                                (.seq
                                  (.ops [
                                      (none, [⟨none, some 98, .p (.bin .lss (.s 97) (.s 96))⟩])] (.one .nil))
                                  (.seq
                                    (.cond (.s 98)
                                      .skip
                                      (.exit 6))
                                    (.seq
                                      (.block 7
                                        (.seq
                                          (.ops [
                                              (none, [⟨none, some 99, .p (.mv (.s 97))⟩,
                                              ⟨none, some 18, .p (.mv (.s 99))⟩])] (.one .nil))
                                          (.seq
                                            (.ops [
                                                (none, [⟨none, some 100, .p (.mv (.s 18))⟩,
                                                ⟨none, some 101, .p (.idx (.s 12) (.s 100) (some 32) 1)⟩,
                                                ⟨none, some 102, .r (.ld (.s 101) none)⟩,
                                                ⟨none, some 19, .p (.mv (.s 102))⟩])] (.one .nil))
                                            (.seq
                                              (.ops [
                                                  (none, [⟨none, some 103, .p (.mv (.s 19))⟩,
                                                  ⟨none, some 104, .p (.mv (.s 19))⟩,
                                                  ⟨none, some 105, .p (.idx (.s 16) (.s 104) (some 32) 1)⟩,
                                                  ⟨none, some 106, .r (.ld (.s 105) none)⟩,
                                                  ⟨none, some 107, .p (.build [.int .i64 0, .int .u32 0, .int .i64 0] [(0, 1), (1, 1), (2, 1)] [(0, .s 103), (1, .s 106), (2, .c (.int .i64 (-1)))])⟩,
                                                  ⟨none, some 20, .a (.alloc [.int .i64 0, .int .u32 0, .int .i64 0])⟩,
                                                  ⟨none, none, .e (.st (.s 20) (.s 107) 3)⟩])] (.one .nil))
                                              (.seq
                                                (.seq
                                                  (.ops [
                                                      (none, [⟨none, some 108, .p (.fld (.s 3) 0)⟩,
                                                      ⟨none, some 109, .r (.ld (.s 108) none)⟩,
                                                      ⟨none, some 110, .p (.mv (.c (.int .i64 0)))⟩])] (.one .nil))
                                                  (.block 8
                                                    (.loop [110] [21, 111, 112, 113, 114, 115, 116, 117, 118, 119, 120, 121, 122, 123, 124, 125, 126, 127, 128, 129, 130, 131, 132, 133, 134, 135, 136, 137, 138, 139, 140, 141, 142, 143, 144, 145, 146, 147, 148]
                                                      (.seq
                                                        (.ops [
                                                            (none, [⟨none, some 111, .p (.bin .lss (.s 110) (.s 109))⟩])] (.one .nil))
                                                        (.seq
                                                          (.cond (.s 111)
                                                            .skip
                                                            (.exit 8))
                                                          (.join [] [21, 112, 113, 114, 115, 116, 117, 118, 119, 120, 121, 122, 123, 124, 125, 126, 127, 128, 129, 130, 131, 132, 133, 134, 135, 136, 137, 138, 139, 140, 141, 142, 143, 144, 145, 146, 147]
                                                            (.block 9
                                                              (.seq
                                                                (.ops [
                                                                    (none, [⟨none, some 112, .p (.mv (.s 110))⟩,
                                                                    ⟨none, some 21, .p (.mv (.s 112))⟩])] (.one .nil))
                                                                (.seq
                                                                  (.seq
                                                                    (.ops [
                                                                        (none, [⟨none, some 113, .p (.fld (.s 20) 1)⟩,
                                                                        ⟨none, some 114, .r (.ld (.s 113) none)⟩,
                                                                        ⟨none, some 115, .p (.mv (.s 21))⟩,
                                                                        ⟨none, some 116, .p (.bin .shr (.s 114) (.s 115))⟩,
                                                                        ⟨none, some 117, .p (.bin .and (.s 116) (.c (.int .u32 1)))⟩,
                                                                        ⟨none, some 118, .p (.bin .eql (.s 117) (.c (.int .u32 0)))⟩])] (.one .nil))
                                                                    (.cond (.s 118)
                                                                      (.exit 9)
                                                                      .skip))
                                                                  (.join [] [119, 120, 121, 122, 123, 124, 125, 126, 127, 128, 129, 130, 131, 132, 133]
                                                                    (.join [131] [119, 120, 121, 122, 123, 124, 125, 126, 127, 128, 129, 130]
                                                                      (.draw [0, 1, 3, 7, 15, 31, 63, 15, 143, 399, 911, 2047, 4095] [
                                                                          (none, [⟨none, some 119, .p (.fld (.s 20) 2)⟩,
                                                                          ⟨none, some 120, .r (.ld (.s 119) none)⟩,
                                                                          ⟨none, some 121, .p (.bin .lss (.s 120) (.c (.int .i64 0)))⟩,
                                                                          ⟨none, some 122, .p (.mv (.s 121))⟩]),
                                                                          (some (122, false), [⟨none, some 123, .p (.mv (.s 21))⟩,
                                                                          ⟨none, some 124, .p (.idx (.s 13) (.s 123) (some 32) 1)⟩,
                                                                          ⟨none, some 125, .r (.ld (.s 124) none)⟩,
                                                                          ⟨none, some 126, .p (.fld (.s 20) 2)⟩,
                                                                          ⟨none, some 127, .r (.ld (.s 126) none)⟩,
                                                                          ⟨none, some 128, .p (.idx (.s 13) (.s 127) (some 32) 1)⟩,
                                                                          ⟨none, some 129, .r (.ld (.s 128) none)⟩,
                                                                          ⟨none, some 130, .p (.bin .lss (.s 125) (.s 129))⟩]),
                                                                          (none, [⟨none, some 131, .p (.pick (.s 122) (.c (.bool true)) (.s 130))⟩])] (.one (.tst (.one .nil) (.one .nil))))
                                                                      (.cond (.s 131)
                                                                        (.ops [
                                                                            (none, [⟨none, some 132, .p (.mv (.s 21))⟩,
                                                                            ⟨none, some 133, .p (.fld (.s 20) 2)⟩,
                                                                            ⟨none, none, .e (.st (.s 133) (.s 132) 1)⟩])] (.one .nil))
                                                                        .skip))
                                                                    (.draw [0, 0, 2, 6, 0, 16, 62, 0, 128, 0, 512, 1920, 4094, 8191, 16383] [
                                                                        (none, [⟨none, some 134, .p (.mv (.s 21))⟩,
                                                                        ⟨none, some 135, .p (.mv (.s 21))⟩,
                                                                        ⟨none, some 136, .p (.idx (.s 16) (.s 135) (some 32) 1)⟩,
                                                                        ⟨none, some 137, .r (.ld (.s 136) none)⟩,
                                                                        ⟨none, some 138, .p (.fld (.s 20) 1)⟩,
                                                                        ⟨none, some 139, .r (.ld (.s 138) none)⟩,
                                                                        ⟨none, some 140, .p (.bin .or (.s 137) (.s 139))⟩,
                                                                        ⟨none, some 141, .p (.mv (.s 21))⟩,
                                                                        ⟨none, some 142, .p (.bin .shl (.c (.int .u32 1)) (.s 141))⟩,
                                                                        ⟨none, some 143, .p (.mv (.s 19))⟩,
                                                                        ⟨none, some 144, .p (.bin .shl (.c (.int .u32 1)) (.s 143))⟩,
                                                                        ⟨none, some 145, .p (.bin .or (.s 142) (.s 144))⟩,
                                                                        ⟨none, some 146, .p (.bin .andNot (.s 140) (.s 145))⟩,
                                                                        ⟨none, some 147, .p (.idx (.s 16) (.s 134) (some 32) 1)⟩,
                                                                        ⟨none, none, .e (.st (.s 147) (.s 146) 1)⟩])] (.one .nil))))))
                                                            (.ops [
                                                                (none, [⟨none, some 148, .p (.bin .add (.s 110) (.c (.int .i64 1)))⟩,
                                                                ⟨none, some 110, .p (.mv (.s 148))⟩])] (.one .nil))))))))
                                                (.ops [
                                                    (none, [⟨none, some 149, .p (.mv (.s 17))⟩,
                                                    ⟨none, some 150, .p (.mv (.s 19))⟩,
                                                    ⟨none, some 151, .r (.ld (.s 20) (some 3))⟩,
                                                    ⟨none, some 152, .p (.idx (.s 149) (.s 150) none 3)⟩,
                                                    ⟨none, none, .e (.st (.s 152) (.s 151) 3)⟩])] (.one .nil)))))))
                                      (.ops [
                                          (none, [⟨none, some 153, .p (.bin .add (.s 97) (.c (.int .i64 1)))⟩,
                                          ⟨none, some 97, .p (.mv (.s 153))⟩])] (.one .nil))))))))
                          (.seq
                            (.ops [
                                (none, [⟨none, some 154, .p (.mv (.s 17))⟩,
                                ⟨none, some 6, .p (.mv (.s 154))⟩,
                                ⟨none, some 7, .p (.mv (.c (.int .i64 0)))⟩])] (.one .nil))
                            .ret)))))))))))))
theorem cfn13 : cfn Try.prog 13 = some ⟨155, 8, d13.erase, [(.s 6, none), (.s 7, none)]⟩ := by kernel_rfl
theorem ok13 : d13.ok 155 8 = true := by kernel_rfl
noncomputable def F13 (a0 a1 a2 : Value) (H : Heap) (nx : Nat) (k : EP) : Prop :=
  dBox a0 fun tc_1 => wNew (.cells tc_1 0) .ptr H nx fun t3_2 H1 nx1 =>
  wLd t3_2 (some 2) H1 fun t22_3 =>
  wCall Try.prog 27 [t22_3, a1] H1 nx1 fun t24_4 H2 nx2 =>
  wBin .neq t24_4 (.int .i64 0) fun t26_5 =>
  wIf t26_5 (
    forceV (.tuple ⟨[(.slice none 0 0), t24_4]⟩) fun tv_6 => k tv_6 H2 nx2) (
    wLen a2 0 H2 fun t29_7 =>
    wLoop (fun tih_8 tL_9 H3 nx3 =>
      wBin .lss (tL_9.getD 1 undef) t29_7 fun t31_10 =>
      wIf t31_10 (
        wIdx a2 (tL_9.getD 1 undef) none 1 fun t32_11 =>
        wLd t32_11 none H3 fun t33_12 =>
        wJoin (fun tj_13 =>
          wBin .lss t33_12 a1 fun t36_15 =>
          wGuard false t36_15 (
            wFld t3_2 0 fun t39_16 =>
            wLd t39_16 none H3 fun t40_17 =>
            wBin .geq t33_12 t40_17 fun t41_18 =>
            wGuard false t41_18 (
              wBin .shr (tL_9.getD 0 undef) t33_12 fun t46_19 =>
              wBin .and t46_19 (.int .u32 1) fun t47_20 =>
              wBin .eql t47_20 (.int .u32 1) fun t48_21 =>
              tj_13 [t48_21] H3 nx3) (
              tj_13 [(.bool true)] H3 nx3)) (
              tj_13 [(.bool true)] H3 nx3)) (fun tL_14 H4 nx4 =>
          wIf (tL_14.getD 0 undef) (
            forceV (.tuple ⟨[(.slice none 0 0), (.int .i64 1)]⟩) fun tv_22 => k tv_22 H4 nx4) (
            wBin .shl (.int .u32 1) t33_12 fun t52_23 =>
            wBin .or (tL_9.getD 0 undef) t52_23 fun t53_24 =>
            wBin .add (tL_9.getD 1 undef) (.int .i64 1) fun t54_25 =>
            tih_8 [t53_24, t54_25] H4 nx4))) (
        wLen a2 0 H3 fun t56_26 =>
        wFld t3_2 0 fun t57_27 =>
        wLd t57_27 none H3 fun t58_28 =>
        wBin .sub t58_28 a1 fun t60_29 =>
        wBin .neq t56_26 t60_29 fun t61_30 =>
        wIf t61_30 (
          forceV (.tuple ⟨[(.slice none 0 0), (.int .i64 1)]⟩) fun tv_31 => k tv_31 H3 nx3) (
          wNew (.cells [.int .i64 0, .int .i64 0, .int .i64 0, .int .i64 0, .int .i64 0, .int .i64 0, .int .i64 0, .int .i64 0, .int .i64 0, .int .i64 0, .int .i64 0, .int .i64 0, .int .i64 0, .int .i64 0, .int .i64 0, .int .i64 0, .int .i64 0, .int .i64 0, .int .i64 0, .int .i64 0, .int .i64 0, .int .i64 0, .int .i64 0, .int .i64 0, .int .i64 0, .int .i64 0, .int .i64 0, .int .i64 0, .int .i64 0, .int .i64 0, .int .i64 0, .int .i64 0] 0) .ptr H3 nx3 fun t12_32 H5 nx5 =>
          wNew (.cells [.int .i64 0, .int .i64 0, .int .i64 0, .int .i64 0, .int .i64 0, .int .i64 0, .int .i64 0, .int .i64 0, .int .i64 0, .int .i64 0, .int .i64 0, .int .i64 0, .int .i64 0, .int .i64 0, .int .i64 0, .int .i64 0, .int .i64 0, .int .i64 0, .int .i64 0, .int .i64 0, .int .i64 0, .int .i64 0, .int .i64 0, .int .i64 0, .int .i64 0, .int .i64 0, .int .i64 0, .int .i64 0, .int .i64 0, .int .i64 0, .int .i64 0, .int .i64 0] 0) .ptr H5 nx5 fun t13_33 H6 nx6 =>
          wSlA t12_32 32 1 none none none fun t62_34 =>
          wCopy t62_34 a2 1 H6 nx6 fun t64_35 H7 nx7 =>
          wLoop (fun tih_36 tL_37 H8 nx8 =>
            wBin .lss (tL_37.getD 0 undef) a1 fun t67_38 =>
            wIf t67_38 (
              wLen a2 0 H8 fun t70_39 =>
              wBin .add t70_39 (tL_37.getD 0 undef) fun t72_40 =>
              wBin .sub a1 (.int .i64 1) fun t74_41 =>
              wBin .sub t74_41 (tL_37.getD 0 undef) fun t76_42 =>
              wIdx t12_32 t72_40 (some 32) 1 fun t77_43 =>
              wSt t77_43 t76_42 1 H8 fun H9 =>
              wBin .add (tL_37.getD 0 undef) (.int .i64 1) fun t78_44 =>
              tih_36 [t78_44] H9 nx8) (
              wFld t3_2 0 fun t79_45 =>
              wLd t79_45 none H8 fun t80_46 =>
              wLoop (fun tih_47 tL_48 H10 nx10 =>
                wBin .lss (tL_48.getD 0 undef) t80_46 fun t82_49 =>
                wIf t82_49 (
                  wIdx t12_32 (tL_48.getD 0 undef) (some 32) 1 fun t85_50 =>
                  wLd t85_50 none H10 fun t86_51 =>
                  wIdx t13_33 t86_51 (some 32) 1 fun t88_52 =>
                  wSt t88_52 (tL_48.getD 0 undef) 1 H10 fun H11 =>
                  wBin .add (tL_48.getD 0 undef) (.int .i64 1) fun t89_53 =>
                  tih_47 [t89_53] H11 nx10) (
                  wLd t3_2 (some 2) H10 fun t90_54 =>
                  wCall Try.prog 33 [t90_54] H10 nx10 fun t91_55 H12 nx12 =>
                  wNew (.cells [.int .u32 0, .int .u32 0, .int .u32 0, .int .u32 0, .int .u32 0, .int .u32 0, .int .u32 0, .int .u32 0, .int .u32 0, .int .u32 0, .int .u32 0, .int .u32 0, .int .u32 0, .int .u32 0, .int .u32 0, .int .u32 0, .int .u32 0, .int .u32 0, .int .u32 0, .int .u32 0, .int .u32 0, .int .u32 0, .int .u32 0, .int .u32 0, .int .u32 0, .int .u32 0, .int .u32 0, .int .u32 0, .int .u32 0, .int .u32 0, .int .u32 0, .int .u32 0] 0) .ptr H12 nx12 fun t16_56 H13 nx13 =>
                  wSt t16_56 t91_55 32 H13 fun H14 =>
                  wFld t3_2 0 fun t92_57 =>
                  wLd t92_57 none H14 fun t93_58 =>
                  dMsl t93_58 t93_58 [.int .i64 0, .int .u32 0, .int .i64 0] fun tc_59 tl_61 tm_62 => wNew (.cells tc_59 0) (.slice tl_61 tm_62) H14 nx13 fun t94_60 H15 nx15 =>
                  wFld t3_2 0 fun t95_63 =>
                  wLd t95_63 none H15 fun t96_64 =>
                  wLoop (fun tih_65 tL_66 H16 nx16 =>
                    wBin .lss (tL_66.getD 0 undef) t96_64 fun t98_67 =>
                    wIf t98_67 (
                      wIdx t12_32 (tL_66.getD 0 undef) (some 32) 1 fun t101_68 =>
                      wLd t101_68 none H16 fun t102_69 =>
                      wIdx t16_56 t102_69 (some 32) 1 fun t105_70 =>
                      wLd t105_70 none H16 fun t106_71 =>
                      wBuild [.int .i64 0, .int .u32 0, .int .i64 0] [(0, 1), (1, 1), (2, 1)] [(0, t102_69), (1, t106_71), (2, (.int .i64 (-1)))] fun t107_72 =>
                      wNew (.cells [.int .i64 0, .int .u32 0, .int .i64 0] 0) .ptr H16 nx16 fun t20_73 H17 nx17 =>
                      wSt t20_73 t107_72 3 H17 fun H18 =>
                      wFld t3_2 0 fun t108_74 =>
                      wLd t108_74 none H18 fun t109_75 =>
                      wLoop (fun tih_76 tL_77 H19 nx19 =>
                        wBin .lss (tL_77.getD 0 undef) t109_75 fun t111_78 =>
                        wIf t111_78 (
                          wJoin (fun tj_79 =>
                            wFld t20_73 1 fun t113_81 =>
                            wLd t113_81 none H19 fun t114_82 =>
                            wBin .shr t114_82 (tL_77.getD 0 undef) fun t116_83 =>
                            wBin .and t116_83 (.int .u32 1) fun t117_84 =>
                            wBin .eql t117_84 (.int .u32 0) fun t118_85 =>
                            wIf t118_85 (
                              tj_79 [] H19 nx19) (
                              wJoin (fun tj_86 =>
                                wJoin (fun tj_88 =>
                                  forceN (nx19 + 13) fun nx23 =>
                                  wFld t20_73 2 fun t119_90 =>
                                  wLd t119_90 none H19 fun t120_91 =>
                                  wBin .lss t120_91 (.int .i64 0) fun t121_92 =>
                                  wGuard false t121_92 (
                                    wIdx t13_33 (tL_77.getD 0 undef) (some 32) 1 fun t124_93 =>
                                    wLd t124_93 none H19 fun t125_94 =>
                                    wFld t20_73 2 fun t126_95 =>
                                    wLd t126_95 none H19 fun t127_96 =>
                                    wIdx t13_33 t127_96 (some 32) 1 fun t128_97 =>
                                    wLd t128_97 none H19 fun t129_98 =>
                                    wBin .lss t125_94 t129_98 fun t130_99 =>
                                    (((((wLd t128_97 none H19 fun tq_103 => tq_103 = t129_98) ∧ True) ∧ (((wLd t126_95 none H19 fun tq_102 => tq_102 = t127_96) ∧ True) ∧ (((wLd t124_93 none H19 fun tq_101 => tq_101 = t125_94) ∧ True) ∧ (((wLd t119_90 none H19 fun tq_100 => tq_100 = t120_91) ∧ True) ∧ True))))) ∧ (
                                      tj_88 [t130_99] H19 nx23)) ∨ False) (
                                    (((((wLd t119_90 none H19 fun tq_104 => tq_104 = t120_91) ∧ True) ∧ True)) ∧ (
                                      tj_88 [(.bool true)] H19 nx23)) ∨ False)) (fun tL_89 H22 nx22 =>
                                  wIf (tL_89.getD 0 undef) (
                                    wFld t20_73 2 fun t133_105 =>
                                    wSt t133_105 (tL_77.getD 0 undef) 1 H22 fun H24 =>
                                    tj_86 [] H24 nx22) (
                                    tj_86 [] H22 nx22))) (fun tL_87 H21 nx21 =>
                                forceN (nx21 + 15) fun nx25 =>
                                wIdx t16_56 (tL_77.getD 0 undef) (some 32) 1 fun t136_106 =>
                                wLd t136_106 none H21 fun t137_107 =>
                                wFld t20_73 1 fun t138_108 =>
                                wLd t138_108 none H21 fun t139_109 =>
                                wBin .or t137_107 t139_109 fun t140_110 =>
                                wBin .shl (.int .u32 1) (tL_77.getD 0 undef) fun t142_111 =>
                                wBin .shl (.int .u32 1) t102_69 fun t144_112 =>
                                wBin .or t142_111 t144_112 fun t145_113 =>
                                wBin .andNot t140_110 t145_113 fun t146_114 =>
                                wIdx t16_56 (tL_77.getD 0 undef) (some 32) 1 fun t147_115 =>
                                wSt t147_115 t146_114 1 H21 fun H26 =>
                                (((((True) ∧ ((wLd t138_108 none H21 fun tq_117 => tq_117 = t139_109) ∧ True)) ∧ (((True) ∧ ((wLd t136_106 none H21 fun tq_116 => tq_116 = t137_107) ∧ True)) ∧ True))) ∧ (
                                  tj_79 [] H26 nx25)) ∨ False))) (fun tL_80 H20 nx20 =>
                            wBin .add (tL_77.getD 0 undef) (.int .i64 1) fun t148_118 =>
                            tih_76 [t148_118] H20 nx20)) (
                          wLd t20_73 (some 3) H19 fun t151_119 =>
                          wIdx t94_60 t102_69 none 3 fun t152_120 =>
                          wSt t152_120 t151_119 3 H19 fun H27 =>
                          wBin .add (tL_66.getD 0 undef) (.int .i64 1) fun t153_121 =>
                          tih_65 [t153_121] H27 nx19)) [(.int .i64 0)] H18 nx17) (
                      forceV (.tuple ⟨[t94_60, (.int .i64 0)]⟩) fun tv_122 => k tv_122 H16 nx16)) [(.int .i64 0)] H15 nx15)) [(.int .i64 0)] H8 nx8)) [(.int .i64 0)] H7 nx7))) [(.int .u32 0), (.int .i64 0)] H2 nx2)
theorem eq13 (a0 a1 a2 : Value) (H : Heap) (nx : Nat) (k : EP) : wBody Try.prog 155 8 d13 [(.s 6, none), (.s 7, none)] [a0, a1, a2] H nx k = F13 a0 a1 a2 H nx k := by kernel_rfl
theorem spec13 {a0 a1 a2 : Value} {H : Heap} {nx : Nat} {k : EP} (h : F13 a0 a1 a2 H nx k) : Ans Try.prog 13 [a0, a1, a2] H nx k :=
  spec_of_body mixed namesOK cfn13 ok13 (by simp) ((eq13 a0 a1 a2 H nx k).symm ▸ h)

/-! 4: ordinal/ordinallaw30.EliminationBags -/
def d4 : D :=
  (.seq
    (.ops [
        (none, [⟨none, some 3, .a (.box (.s 0))⟩,
        ⟨none, some 6, .p (.mv (.c (.bool false)))⟩])] (.one .nil))
    (.seq
      (.join [18] [10, 11, 12, 13, 14, 15, 16, 17]
        (.ops [
            (none, [⟨none, some 10, .p (.fld (.s 3) 1)⟩,
            ⟨none, some 11, .r (.ld (.s 10) none)⟩,
            ⟨none, some 12, .r (.len (.s 11) 0)⟩,
            ⟨none, some 13, .p (.bin .gtr (.s 12) (.c (.int .i64 70)))⟩,
            ⟨none, some 14, .p (.mv (.s 13))⟩]),
            (some (14, false), [⟨none, some 15, .p (.mv (.s 2))⟩,
            ⟨none, some 16, .r (.len (.s 15) 0)⟩,
            ⟨none, some 17, .p (.bin .gtr (.s 16) (.c (.int .i64 40)))⟩]),
            (none, [⟨none, some 18, .p (.pick (.s 14) (.c (.bool true)) (.s 17))⟩])] (.one (.tst (.one .nil) (.one .nil))))
        (.cond (.s 18)
          (.seq
            (.ops [
                (none, [⟨none, some 19, .e (.call (.c (.func (.func 7) ⟨[]⟩ ⟨[]⟩)) [])⟩,
                ⟨none, some 6, .p (.mv (.s 19))⟩])] (.one .nil))
            .ret)
          .skip))
      (.seq
        (.ops [
            (none, [⟨none, some 21, .r (.ld (.s 3) (some 2))⟩,
            ⟨none, some 22, .p (.mv (.s 1))⟩,
            ⟨none, some 23, .p (.mv (.s 2))⟩,
            ⟨none, some 24, .e (.call (.c (.func (.func 13) ⟨[]⟩ ⟨[]⟩)) [.s 21, .s 22, .s 23])⟩,
            ⟨none, some 20, .p (.mv (.s 24))⟩,
            ⟨none, some 25, .p (.ext (.s 20) 0)⟩,
            ⟨none, some 26, .p (.ext (.s 20) 1)⟩,
            ⟨none, some 7, .p (.mv (.s 25))⟩,
            ⟨none, some 8, .p (.mv (.s 26))⟩])] (.one .nil))
        (.seq
          (.ops [
              (none, [⟨none, some 27, .r (.ld (.s 3) (some 2))⟩,
              ⟨none, some 28, .e (.call (.c (.func (.func 10) ⟨[]⟩ ⟨[]⟩)) [.s 27])⟩,
              ⟨none, some 29, .e (.call (.c (.func (.func 9) ⟨[]⟩ ⟨[]⟩)) [.s 28])⟩,
              ⟨none, some 9, .p (.mv (.s 29))⟩])] (.one .nil))
          (.join [9] [30, 31, 32, 33, 34, 35, 36, 37, 38, 39, 40, 41, 42, 43, 44, 45, 46, 47, 48]
            (.block 0
              (.seq
                (.ops [
                    (none, [⟨none, some 31, .p (.mv (.s 9))⟩,
                    ⟨none, some 32, .p (.bin .neq (.s 31) (.c (.int .i64 0)))⟩,
                    ⟨none, some 30, .p (.mv (.s 32))⟩])] (.one .nil))
                (.cond (.s 30)
                  .skip
                  (.join [33] [34, 35, 36, 37, 38, 39, 40, 41]
                    (.ops [
                        (none, [⟨none, some 34, .p (.mv (.s 1))⟩,
                        ⟨none, some 35, .p (.bin .lss (.s 34) (.c (.int .i64 0)))⟩,
                        ⟨none, some 36, .p (.mv (.s 35))⟩]),
                        (some (36, false), [⟨none, some 37, .p (.mv (.s 1))⟩,
                        ⟨none, some 38, .p (.fld (.s 3) 0)⟩,
                        ⟨none, some 39, .r (.ld (.s 38) none)⟩,
                        ⟨none, some 40, .p (.bin .gtr (.s 37) (.s 39))⟩]),
                        (none, [⟨none, some 41, .p (.pick (.s 36) (.c (.bool true)) (.s 40))⟩,
                        ⟨none, some 33, .p (.mv (.s 41))⟩])] (.one (.tst (.one .nil) (.one .nil))))
                    (.cond (.s 33)
                      (.ops [
                          (none, [⟨none, some 9, .p (.mv (.c (.int .i64 3)))⟩])] (.one .nil))
                      (.seq
                        (.ops [
                            (none, [⟨none, some 43, .p (.mv (.s 2))⟩,
                            ⟨none, some 44, .p (.mv (.s 1))⟩,
                            ⟨none, some 45, .p (.fld (.s 3) 0)⟩,
                            ⟨none, some 46, .r (.ld (.s 45) none)⟩,
                            ⟨none, some 47, .e (.call (.c (.func (.func 14) ⟨[]⟩ ⟨[]⟩)) [.s 43, .s 44, .s 46])⟩,
                            ⟨none, some 48, .p (.un .not (.s 47))⟩,
                            ⟨none, some 42, .p (.mv (.s 48))⟩])] (.one .nil))
                        (.cond (.s 42)
                          (.ops [
                              (none, [⟨none, some 9, .p (.mv (.c (.int .i64 1)))⟩])] (.one .nil))
                          .skip)))))))
            (.seq
              (.seq
                (.ops [
                    (none, [⟨none, some 49, .p (.mv (.s 9))⟩,
                    ⟨none, some 50, .p (.bin .neq (.s 49) (.c (.int .i64 0)))⟩])] (.one .nil))
                (.cond (.s 50)
                  (.seq
                    (.ops [
                        (none, [⟨none, some 51, .e (.call (.c (.func (.func 7) ⟨[]⟩ ⟨[]⟩)) [])⟩,
                        ⟨none, some 52, .p (.mv (.s 51))⟩]),
                        (some (52, true), [⟨none, some 53, .p (.mv (.s 8))⟩,
                        ⟨none, some 54, .p (.mv (.s 9))⟩,
                        ⟨none, some 55, .p (.bin .eql (.s 53) (.s 54))⟩]),
                        (none, [⟨none, some 56, .p (.pick (.s 52) (.s 55) (.c (.bool false)))⟩,
                        ⟨none, some 57, .p (.mv (.s 56))⟩]),
                        (some (57, true), [⟨none, some 58, .p (.mv (.s 7))⟩,
                        ⟨none, some 59, .r (.len (.s 58) 0)⟩,
                        ⟨none, some 60, .p (.bin .eql (.s 59) (.c (.int .i64 0)))⟩]),
                        (none, [⟨none, some 61, .p (.pick (.s 57) (.s 60) (.c (.bool false)))⟩,
                        ⟨none, some 6, .p (.mv (.s 61))⟩])] (.one (.tst (.one (.tst (.one .nil) (.one .nil))) (.one (.one (.one .nil))))))
                    .ret)
                  .skip))
              (.seq
                (.draw [0, 1, 3, 7, 15, 31, 63, 127, 63, 511, 63, 63, 4095, 8191, 16383, 32767, 65535, 65535, 65535, 524287, 1048575, 2097151, 4194303] [
                    (none, [⟨none, some 62, .e (.call (.c (.func (.func 7) ⟨[]⟩ ⟨[]⟩)) [])⟩,
                    ⟨none, some 63, .p (.mv (.s 62))⟩]),
                    (some (63, true), [⟨none, some 64, .p (.mv (.s 8))⟩,
                    ⟨none, some 65, .p (.bin .eql (.s 64) (.c (.int .i64 0)))⟩]),
                    (none, [⟨none, some 66, .p (.pick (.s 63) (.s 65) (.c (.bool false)))⟩,
                    ⟨none, some 67, .p (.mv (.s 66))⟩]),
                    (some (67, true), [⟨none, some 68, .p (.mv (.s 7))⟩,
                    ⟨none, some 69, .e (.call (.c (.func (.func 12) ⟨[]⟩ ⟨[]⟩)) [.s 68])⟩,
                    ⟨none, some 70, .r (.ld (.s 3) (some 2))⟩,
                    ⟨none, some 71, .e (.call (.c (.func (.func 10) ⟨[]⟩ ⟨[]⟩)) [.s 70])⟩,
                    ⟨none, some 72, .p (.mv (.s 1))⟩,
                    ⟨none, some 73, .p (.mv (.s 2))⟩,
                    ⟨none, some 74, .e (.call (.c (.func (.func 16) ⟨[]⟩ ⟨[]⟩)) [.s 71, .s 72, .s 73])⟩,
                    ⟨none, some 75, .e (.call (.c (.func (.func 15) ⟨[]⟩ ⟨[]⟩)) [.s 69, .s 74])⟩]),
                    (none, [⟨none, some 76, .p (.pick (.s 67) (.s 75) (.c (.bool false)))⟩,
                    ⟨none, some 77, .p (.mv (.s 76))⟩]),
                    (some (77, true), [⟨none, some 78, .r (.ld (.s 3) (some 2))⟩,
                    ⟨none, some 79, .p (.mv (.s 1))⟩,
                    ⟨none, some 80, .p (.mv (.s 7))⟩,
                    ⟨none, some 81, .e (.call (.c (.func (.func 8) ⟨[]⟩ ⟨[]⟩)) [.s 78, .s 79, .s 80])⟩,
                    ⟨none, some 82, .p (.bin .eql (.s 81) (.c (.int .i64 0)))⟩]),
                    (none, [⟨none, some 83, .p (.pick (.s 77) (.s 82) (.c (.bool false)))⟩,
                    ⟨none, some 6, .p (.mv (.s 83))⟩])] (.one (.tst (.one (.tst (.one (.tst (.one .nil) (.one .nil))) (.one (.one (.one .nil))))) (.one (.one (.one (.one (.one .nil))))))))
                .ret)))))))
theorem cfn4 : cfn Try.prog 4 = some ⟨84, 7, d4.erase, [(.s 6, none)]⟩ := by kernel_rfl
theorem ok4 : d4.ok 84 7 = true := by kernel_rfl
noncomputable def F4 (a0 a1 a2 : Value) (H : Heap) (nx : Nat) (k : EP) : Prop :=
  dBox a0 fun tc_1 => wNew (.cells tc_1 0) .ptr H nx fun t3_2 H1 nx1 =>
  wJoin (fun tj_3 =>
    wFld t3_2 1 fun t10_5 =>
    wLd t10_5 none H1 fun t11_6 =>
    wLen t11_6 0 H1 fun t12_7 =>
    wBin .gtr t12_7 (.int .i64 70) fun t13_8 =>
    wGuard false t13_8 (
      wLen a2 0 H1 fun t16_9 =>
      wBin .gtr t16_9 (.int .i64 40) fun t17_10 =>
      tj_3 [t17_10] H1 nx1) (
      tj_3 [(.bool true)] H1 nx1)) (fun tL_4 H2 nx2 =>
    wIf (tL_4.getD 0 undef) (
      wCall Try.prog 7 [] H2 nx2 fun t19_11 H3 nx3 =>
      forceV t19_11 fun tv_12 => k tv_12 H3 nx3) (
      wLd t3_2 (some 2) H2 fun t21_13 =>
      wCall Try.prog 13 [t21_13, a1, a2] H2 nx2 fun t24_14 H4 nx4 =>
      wExt t24_14 0 fun t25_15 =>
      wExt t24_14 1 fun t26_16 =>
      wLd t3_2 (some 2) H4 fun t27_17 =>
      wCall Try.prog 10 [t27_17] H4 nx4 fun t28_18 H5 nx5 =>
      wCall Try.prog 9 [t28_18] H5 nx5 fun t29_19 H6 nx6 =>
      wJoin (fun tj_20 =>
        wBin .neq t29_19 (.int .i64 0) fun t32_22 =>
        wIf t32_22 (
          tj_20 [t29_19] H6 nx6) (
          wJoin (fun tj_23 =>
            wBin .lss a1 (.int .i64 0) fun t35_25 =>
            wGuard false t35_25 (
              wFld t3_2 0 fun t38_26 =>
              wLd t38_26 none H6 fun t39_27 =>
              wBin .gtr a1 t39_27 fun t40_28 =>
              tj_23 [t40_28] H6 nx6) (
              tj_23 [(.bool true)] H6 nx6)) (fun tL_24 H8 nx8 =>
            wIf (tL_24.getD 0 undef) (
              tj_20 [(.int .i64 3)] H8 nx8) (
              wFld t3_2 0 fun t45_29 =>
              wLd t45_29 none H8 fun t46_30 =>
              wCall Try.prog 14 [a2, a1, t46_30] H8 nx8 fun t47_31 H9 nx9 =>
              wUn .not t47_31 fun t48_32 =>
              wIf t48_32 (
                tj_20 [(.int .i64 1)] H9 nx9) (
                tj_20 [t29_19] H9 nx9))))) (fun tL_21 H7 nx7 =>
        wBin .neq (tL_21.getD 0 undef) (.int .i64 0) fun t50_33 =>
        wIf t50_33 (
          wCall Try.prog 7 [] H7 nx7 fun t51_34 H10 nx10 =>
          wGuard true t51_34 (
            wBin .eql t26_16 (tL_21.getD 0 undef) fun t55_35 =>
            wGuard true t55_35 (
              wLen t25_15 0 H10 fun t59_36 =>
              wBin .eql t59_36 (.int .i64 0) fun t60_37 =>
              forceV t60_37 fun tv_38 => k tv_38 H10 nx10) (
              forceV (.bool false) fun tv_39 => k tv_39 H10 nx10)) (
              forceV (.bool false) fun tv_40 => k tv_40 H10 nx10)) (
          forceN (nx7 + 23) fun nx11 =>
          wCall Try.prog 7 [] H7 nx11 fun t62_41 H12 nx12 =>
          wGuard true t62_41 (
            wBin .eql t26_16 (.int .i64 0) fun t65_42 =>
            wGuard true t65_42 (
              wCall Try.prog 12 [t25_15] H12 nx12 fun t69_43 H13 nx13 =>
              wLd t3_2 (some 2) H13 fun t70_44 =>
              wCall Try.prog 10 [t70_44] H13 nx13 fun t71_45 H14 nx14 =>
              wCall Try.prog 16 [t71_45, a1, a2] H14 nx14 fun t74_46 H15 nx15 =>
              wCall Try.prog 15 [t69_43, t74_46] H15 nx15 fun t75_47 H16 nx16 =>
              wGuard true t75_47 (
                wLd t3_2 (some 2) H16 fun t78_48 =>
                wCall Try.prog 8 [t78_48, a1, t25_15] H16 nx16 fun t81_49 H17 nx17 =>
                wBin .eql t81_49 (.int .i64 0) fun t82_50 =>
                (((((True) ∧ ((wLd t3_2 (some 2) H16 fun tq_53 => tq_53 = t78_48) ∧ True)) ∧ (((True) ∧ ((True) ∧ ((True) ∧ ((True) ∧ ((wLd t3_2 (some 2) H13 fun tq_51 => tq_51 = t70_44) ∧ ((wLd t3_2 (some 2) H12 fun tq_52 => tq_52 = t70_44) ∧ True)))))) ∧ True))) ∧ (
                  forceV t82_50 fun tv_54 => k tv_54 H17 nx17)) ∨ False) (
                (((((True) ∧ ((True) ∧ ((True) ∧ ((wLd t3_2 (some 2) H13 fun tq_55 => tq_55 = t70_44) ∧ ((wLd t3_2 (some 2) H12 fun tq_56 => tq_56 = t70_44) ∧ True))))) ∧ True)) ∧ (
                  forceV (.bool false) fun tv_57 => k tv_57 H16 nx16)) ∨ False)) (
                ((True) ∧ (
                  forceV (.bool false) fun tv_58 => k tv_58 H12 nx12)) ∨ False)) (
                ((True) ∧ (
                  forceV (.bool false) fun tv_59 => k tv_59 H12 nx12)) ∨ False)))))
theorem eq4 (a0 a1 a2 : Value) (H : Heap) (nx : Nat) (k : EP) : wBody Try.prog 84 7 d4 [(.s 6, none)] [a0, a1, a2] H nx k = F4 a0 a1 a2 H nx k := by kernel_rfl
theorem spec4 {a0 a1 a2 : Value} {H : Heap} {nx : Nat} {k : EP} (h : F4 a0 a1 a2 H nx k) : Ans Try.prog 4 [a0, a1, a2] H nx k :=
  spec_of_body mixed namesOK cfn4 ok4 (by simp) ((eq4 a0 a1 a2 H nx k).symm ▸ h)

end Go.Proofs.Ytaieijjfabbfeaa

set_option linter.unusedSimpArgs false
set_option linter.unusedVariables false
set_option linter.unusedSectionVars false
namespace Go.Proofs.Ytaieijjfabbfeaa
open Go.Clo

theorem zeros64 : [Value.int .i64 0, .int .i64 0, .int .i64 0, .int .i64 0, .int .i64 0, .int .i64 0, .int .i64 0, .int .i64 0, .int .i64 0, .int .i64 0, .int .i64 0, .int .i64 0, .int .i64 0, .int .i64 0, .int .i64 0, .int .i64 0, .int .i64 0, .int .i64 0, .int .i64 0, .int .i64 0, .int .i64 0, .int .i64 0, .int .i64 0, .int .i64 0, .int .i64 0, .int .i64 0, .int .i64 0, .int .i64 0, .int .i64 0, .int .i64 0, .int .i64 0, .int .i64 0] = i64s (List.replicate 32 0) := rfl
theorem slA_all (b : Nat) (k : VP) : wSlA (.pointer (some ⟨b, 0, none⟩)) 32 1 none none none k = k (.slice (some ⟨b, 0, none⟩) 32 32) := by
  have e : sliceA (some ⟨b, 0, none⟩) 32 32 1 none none none false = some (.slice (some ⟨b, 0, none⟩) 32 32) := rfl
  unfold wSlA
  simp only [e, force1_eq]
theorem copy_i64s {l : List Int} (h : l.length ≤ 32) : putL (i64s (List.replicate 32 0)) 0 (i64s l) = i64s (l ++ List.replicate (32 - l.length) 0) := by
  simp only [putL, i64s, List.map_replicate, List.take_zero, List.nil_append, List.drop_replicate, List.map_append, List.length_map, Nat.zero_add]

theorem downTo_get {f : Nat} : ∀ {m i : Nat}, i < m → (downTo f m)[i]? = some ((f : Int) - 1 - i)
  | 0, i, h => by omega
  | m + 1, i, h => by
    unfold downTo
    by_cases hi : i < m
    · rw [List.getElem?_append_left (by rw [downTo_length]; exact hi)]; exact downTo_get hi
    · have : i = m := by omega
      subst this
      rw [List.getElem?_append_right (by rw [downTo_length]; omega), downTo_length]; simp
theorem downTo_mem {f : Nat} : ∀ {m : Nat} {x : Int}, x ∈ downTo f m → ∃ i : Nat, i < m ∧ x = (f : Int) - 1 - i
  | 0, x, h => by simp [downTo] at h
  | m + 1, x, h => by
    unfold downTo at h
    simp only [List.mem_append, List.mem_singleton] at h
    rcases h with h | h
    · obtain ⟨i, hi, e⟩ := downTo_mem h; exact ⟨i, by omega, e⟩
    · exact ⟨m, by omega, h⟩
theorem downTo_nodup {f : Nat} : ∀ m : Nat, (downTo f m).Nodup
  | 0 => by simp [downTo]
  | m + 1 => nodup_snoc (downTo_nodup m) fun h => by obtain ⟨i, hi, e⟩ := downTo_mem h; omega
theorem nodup_toNat : ∀ {l : List Int}, (∀ x ∈ l, 0 ≤ x) → l.Nodup → (l.map Int.toNat).Nodup
  | [], _, _ => by simp
  | x :: l, h0, h => by
    rw [List.nodup_cons] at h
    rw [List.map_cons, List.nodup_cons]
    refine ⟨fun hm => ?_, nodup_toNat (fun y hy => h0 y (List.mem_cons_of_mem _ hy)) h.2⟩
    obtain ⟨y, hy, e⟩ := List.mem_map.mp hm
    have h1 := h0 x List.mem_cons_self
    have h2 := h0 y (List.mem_cons_of_mem _ hy)
    have : y = x := by omega
    subst this
    exact h.1 hy
theorem perm_order {l : List Int} {f n : Nat} (h : permOK l f n) : ∃ order : List Nat, (l ++ downTo f f = order.map fun (w : Nat) => (w : Int)) ∧ order.Nodup ∧ (∀ w ∈ order, w < n) ∧ order.length = n := by
  obtain ⟨h1, h2, h3⟩ := h
  have hall : ∀ x ∈ l ++ downTo f f, 0 ≤ x ∧ x < n := by
    intro x hx
    rcases List.mem_append.mp hx with hx | hx
    · have := h2 x hx; omega
    · obtain ⟨i, hi, e⟩ := downTo_mem hx; omega
  refine ⟨(l ++ downTo f f).map Int.toNat, ?_, nodup_toNat (fun x hx => (hall x hx).1) ?_, ?_, ?_⟩
  · rw [List.map_map]
    conv => lhs; rw [← List.map_id (l ++ downTo f f)]
    exact List.map_congr_left fun x hx => by have := (hall x hx).1; simp; omega
  · rw [List.nodup_append]
    exact ⟨h3, downTo_nodup f, fun a ha b hb e => by
      subst e
      have := h2 a ha
      obtain ⟨i, hi, e⟩ := downTo_mem hb; omega⟩
  · intro w hw
    obtain ⟨x, hx, rfl⟩ := List.mem_map.mp hw
    have := hall x hx; omega
  · simp [downTo_length]; omega

theorem order_all {order : List Nat} {n w : Nat} (hnd : order.Nodup) (hlt : ∀ w ∈ order, w < n) (hlen : order.length = n) (hw : w < n) : w ∈ order := by
  refine Classical.byContradiction fun h => ?_
  have h1 : (w :: order).Nodup := List.nodup_cons.mpr ⟨h, hnd⟩
  have h2 := List.Nodup.length_le_of_subset (l₂ := List.range n) h1 fun x hx => by
    rw [List.mem_range]
    rcases List.mem_cons.mp hx with rfl | hx
    · exact hw
    · exact hlt x hx
  simp at h2; omega

/-- The result of a refusal. -/
def refuse (c : Int) : Value := .tuple ⟨[.slice none 0 0, .int .i64 c]⟩

structure M13 (K : Heap) (top a o : Nat) (near : List Nat) (out : List Bag) (H : Heap) : Prop where
  near : getH H a = some (.cells (u32s near) 0)
  out : getH H o = some (.cells (bagsC out) 0)
  same : ∀ q, q < top → q ≠ a → q ≠ o → getH H q = getH K q
theorem M13.setNear {K : Heap} {top a o : Nat} {near : List Nat} {out : List Bag} {H : Heap} (h : M13 K top a o near out H) (hao : a ≠ o) (l : List Nat) : M13 K top a o l out (hs H a (some (.cells (u32s l) 0))) :=
  ⟨getH_same _ _ _, by rw [getH_ne _ (by omega)]; exact h.out, fun q h0 h1 h2 => by rw [getH_ne _ h1]; exact h.same q h0 h1 h2⟩
theorem M13.setOut {K : Heap} {top a o : Nat} {near : List Nat} {out : List Bag} {H : Heap} (h : M13 K top a o near out H) (hao : a ≠ o) (l : List Bag) : M13 K top a o near l (hs H o (some (.cells (bagsC l) 0))) :=
  ⟨by rw [getH_ne _ hao]; exact h.near, getH_same _ _ _, fun q h0 h1 h2 => by rw [getH_ne _ h2]; exact h.same q h0 h1 h2⟩
theorem M13.setNew {K : Heap} {top a o : Nat} {near : List Nat} {out : List Bag} {H : Heap} (h : M13 K top a o near out H) {q : Nat} (hq : top ≤ q) (ha : a < top) (ho : o < top) (b : Option Blk) : M13 K top a o near out (hs H q b) :=
  ⟨by rw [getH_ne _ (by omega)]; exact h.near, by rw [getH_ne _ (by omega)]; exact h.out, fun r h0 h1 h2 => by rw [getH_ne _ (by omega)]; exact h.same r h0 h1 h2⟩

set_option maxHeartbeats 8000000 in
theorem bags13 (N0 free : Int) (A : Option Addr) (es : List Nat) (cap : Nat) (P : Option Addr) (l : List Int) (capP : Nat) (H : Heap) (nx : Nat) (hS : Sl H nx A (u32s es)) (hsm : Small es)
    (hP : Sl H nx P (i64s l)) (hP0 : Has H nx P) (hl : l.length ≤ 40) :
    Ans Try.prog 13 [gv N0 A es.length cap, .int .i64 free, .slice P l.length capP] H nx fun r H' nx' => Ext H nx H' nx' ∧
      ((fcode N0 free es ≠ 0 ∧ r = refuse (fcode N0 free es)) ∨ (∃ n f : Nat, N0 = n ∧ free = f ∧ f ≤ n ∧ n ≤ 32 ∧ fcode N0 free es = 0 ∧
        ((¬ permOK l f n ∧ r = refuse 1) ∨ (permOK l f n ∧ ∃ order : List Nat, (l ++ downTo f f = order.map fun (w : Nat) => (w : Int)) ∧ order.Nodup ∧ (∀ w ∈ order, w < n) ∧ order.length = n ∧
          ∃ R, r = .tuple ⟨[.slice R n n, .int .i64 0]⟩ ∧ Sl H' nx' R (bagsC (outs n (List.replicate n zeroBag) (adj es) order)))))) := by
  refine spec13 ?_
  unfold F13
  have hE1 : Ext H nx (hs H nx (some (.cells [.int .i64 N0, .slice A es.length cap] 0))) (nx + 1) := (Ext.refl H nx).new _ (Nat.le_refl _) (by omega)
  simp (config := { maxSteps := 2000000 }) (disch := first | omega | assumption | exact shr_lt (by assumption) | exact ndiff32 (by assumption) | exact below_lt (by omega) | fail) only [wFld_eq, wLen_slice, wNew_eq, dBox_agg, oneCells, wLd_none, wLd_2, wLd_3, ldP_cells, getH_same, forceV_eq, forceN_eq, Yld.val, if_true, Nat.zero_add, Nat.add_zero, and_true, true_and, or_false, cellP_lit2, zeros64, zeros32]
  refine wCall_rule (checkFree27 N0 free A es cap _ _ (hS.ext hE1) hsm) ?_
  rintro _ H2 nx2 ⟨rfl, hE2⟩
  have hEE2 := hE1.trans hE2
  have hg2 := hE2.get nx (by omega)
  rw [getH_same] at hg2
  have hnx2 := hE2.le
  by_cases hfc : fcode N0 free es = 0
  case neg =>
    have d1 : decide (fcode N0 free es ≠ 0) = true := by simp [hfc]
    simp (disch := first | omega | assumption | exact shr_lt (by assumption) | exact ndiff32 (by assumption) | exact below_lt (by omega) | fail) only [wBin_neq, wIf_bool, if_true, d1]
    exact ⟨hEE2, .inl ⟨hfc, rfl⟩⟩
  have d1 : decide (fcode N0 free es ≠ 0) = false := by simp [hfc]
  obtain ⟨n, f, rfl, rfl, hn, hfn, hle, hes⟩ := fcode_inv hfc
  simp (config := { maxSteps := 2000000 }) (disch := first | omega | assumption | exact shr_lt (by assumption) | exact ndiff32 (by assumption) | exact below_lt (by omega) | fail) only [wBin_neq, wIf_bool, if_false, Bool.false_eq_true, wBin_sub64, d1]
  have good : ∀ {r : Value} {H' : Heap} {nx' : Nat}, Ext H nx H' nx' → ((¬ permOK l f n ∧ r = refuse 1) ∨ (permOK l f n ∧ ∃ order : List Nat, (l ++ downTo f f = order.map fun (w : Nat) => (w : Int)) ∧ order.Nodup ∧ (∀ w ∈ order, w < n) ∧ order.length = n ∧
          ∃ R, r = .tuple ⟨[.slice R n n, .int .i64 0]⟩ ∧ Sl H' nx' R (bagsC (outs n (List.replicate n zeroBag) (adj es) order)))) →
      Ext H nx H' nx' ∧ ((fcode (n : Int) (f : Int) es ≠ 0 ∧ r = refuse (fcode (n : Int) (f : Int) es)) ∨ (∃ n' f' : Nat, (n : Int) = n' ∧ (f : Int) = f' ∧ f' ≤ n' ∧ n' ≤ 32 ∧ fcode (n : Int) (f : Int) es = 0 ∧
        ((¬ permOK l f' n' ∧ r = refuse 1) ∨ (permOK l f' n' ∧ ∃ order : List Nat, (l ++ downTo f' f' = order.map fun (w : Nat) => (w : Int)) ∧ order.Nodup ∧ (∀ w ∈ order, w < n') ∧ order.length = n' ∧
          ∃ R, r = .tuple ⟨[.slice R n' n', .int .i64 0]⟩ ∧ Sl H' nx' R (bagsC (outs n' (List.replicate n' zeroBag) (adj es) order)))))) :=
    fun hE h => ⟨hE, .inr ⟨n, f, rfl, rfl, hfn, hn, hfc, h⟩⟩
  -- the permutation is looked at
  refine wLoop_rule (m := l.length) (fun m L H' nx' => ∃ i seen : Nat, m + i = l.length ∧ L = [.int .u32 (seen : Int), .int .i64 (i : Int)] ∧ seen < 4294967296 ∧ (∀ w : Nat, seen.testBit w = decide ((w : Int) ∈ l.take i)) ∧
    (∀ x ∈ l.take i, (f : Int) ≤ x ∧ x < (n : Int)) ∧ (l.take i).Nodup ∧ H2 = H' ∧ nx2 = nx') ?_ ⟨0, 0, rfl, rfl, by omega, by simp, by simp, by simp, rfl, rfl⟩
  rintro m ih L _ _ ⟨i, seen, hm, rfl, hseen, hbits, hin, hnd, rfl, rfl⟩ hih
  simp (config := { maxSteps := 2000000 }) (disch := first | omega | assumption | exact shr_lt (by assumption) | exact ndiff32 (by assumption) | exact below_lt (by omega) | fail) only [List.getD_cons_zero, List.getD_cons_succ, wBin_lss, wIf_bool, wBin_add64]
  by_cases hi : i < l.length
  case pos =>
    have hi' : (i : Int) < (l.length : Int) := by omega
    obtain ⟨x, hx⟩ : ∃ x, l[i]? = some x := ⟨_, List.getElem?_eq_getElem hi⟩
    obtain ⟨B, o, row, rfl, hBn, hrow, hget⟩ := (hP.ext hEE2).open (i := i) (by rw [i64s_length]; omega)
    have g0 := hget _ _ (i64s_get hx)
    have bad : ¬ ((f : Int) ≤ x ∧ x < (n : Int)) → ¬ permOK l f n := fun h1 h2 => h1 (h2.2.1 x (List.mem_of_getElem? hx))
    simp (disch := first | omega | assumption | exact shr_lt (by assumption) | exact ndiff32 (by assumption) | exact below_lt (by omega) | fail) only [List.getD_cons_zero, wBin_lss, wBin_geq, wBin_neq, wIf_bool, wGuard_false, wLd_none, ldP_cells, cellP_one, Option.elim_some, List.getElem?_cons_zero, decide_true, if_true, wBin_sub64, wIdx_slice, Int.toNat_natCast, Nat.mul_one, hi', wJoin_eq, ldP_row hrow, g0, hg2]
    by_cases h1 : x < (f : Int)
    · simp (disch := first | omega | assumption | exact shr_lt (by assumption) | exact ndiff32 (by assumption) | exact below_lt (by omega) | fail) only [decide_true, if_true, h1]
      exact good hEE2 (.inl ⟨bad (by omega), rfl⟩)
    by_cases h2 : x ≥ (n : Int)
    · simp (disch := first | omega | assumption | exact shr_lt (by assumption) | exact ndiff32 (by assumption) | exact below_lt (by omega) | fail) only [decide_true, decide_false, if_true, if_false, Bool.false_eq_true, h1, h2]
      exact good hEE2 (.inl ⟨bad (by omega), rfl⟩)
    obtain ⟨w, rfl⟩ : ∃ w : Nat, x = w := ⟨x.toNat, by omega⟩
    have hw : w < 32 := by omega
    have hb := hbits w
    cases hsw : seen.testBit w with
    | true =>
      simp (disch := first | omega | assumption | exact shr_lt (by assumption) | exact ndiff32 (by assumption) | exact below_lt (by omega) | fail) only [wBin_eql, wIf_bool, decide_false, if_true, if_false, Bool.false_eq_true, bit_one, wBin_shr32, wBin_and1, wBin_shl32, h1, h2, hsw]
      refine good hEE2 (.inl ⟨fun hp => ?_, rfl⟩)
      rw [hsw] at hb
      have hmem : (w : Int) ∈ l.take i := by simpa using hb.symm
      obtain ⟨j, hj, hje⟩ := List.getElem_of_mem hmem
      simp at hj
      have hj2 : l[j]? = some (w : Int) := by rw [← hje, List.getElem_take]; exact List.getElem?_eq_getElem (by omega)
      have hne := (List.pairwise_iff_getElem.mp hp.2.2) j i (by omega) hi (by omega)
      exact hne (by rw [(List.getElem?_eq_some_iff.mp hj2).2, (List.getElem?_eq_some_iff.mp hx).2])
    | false =>
      have hp32 : 2 ^ w < 4294967296 := pow32 hw
      rw [hsw] at hb
      have hnm : (w : Int) ∉ l.take i := by simpa using hb.symm
      simp (disch := first | omega | assumption | exact shr_lt (by assumption) | exact ndiff32 (by assumption) | exact below_lt (by omega) | fail) only [wBin_eql, wIf_bool, decide_false, if_false, Bool.false_eq_true, bit_one, wBin_shr32, wBin_and1, wBin_or32, wBin_shl32, h1, h2, hsw]
      refine hih (m - 1) _ _ _ (by omega) ⟨i + 1, seen ||| 2 ^ w, by omega, by simp, or32 hseen hp32, fun u => ?_, ?_, ?_, rfl, rfl⟩
      · rw [Nat.testBit_or, hbits, Nat.testBit_two_pow, take_next hx]
        by_cases huw : u = w
        · subst huw; simp
        · have e1 : decide (w = u) = false := by simp; omega
          have e2 : ¬ (u : Int) = (w : Int) := by omega
          simp [e1, e2]
      · rw [take_next hx]
        intro z hz
        simp only [List.mem_append, List.mem_singleton] at hz
        rcases hz with hz | rfl
        · exact hin z hz
        · omega
      · rw [take_next hx]; exact nodup_snoc hnd hnm
  have hi' : ¬ (i : Int) < (l.length : Int) := by omega
  rw [take_all hi] at hin hnd
  by_cases hlen : l.length + f = n
  case neg =>
    have d2 : decide ((l.length : Int) ≠ (n : Int) - (f : Int)) = true := by simp; omega
    simp (disch := first | omega | assumption | exact shr_lt (by assumption) | exact ndiff32 (by assumption) | exact below_lt (by omega) | fail) only [wBin_neq, wIf_bool, ldP_cells, cellP_one, Option.elim_some, List.getElem?_cons_zero, decide_false, if_true, if_false, Bool.false_eq_true, wBin_sub64, hi', hg2, d2]
    exact good hEE2 (.inl ⟨fun hp => hlen hp.1, rfl⟩)
  have d2 : decide ((l.length : Int) ≠ (n : Int) - (f : Int)) = false := by simp; omega
  have hpok : permOK l f n := ⟨hlen, hin, hnd⟩
  simp (config := { maxSteps := 2000000 }) (disch := first | omega | assumption | exact shr_lt (by assumption) | exact ndiff32 (by assumption) | exact below_lt (by omega) | fail) only [wBin_neq, wIf_bool, ldP_cells, cellP_one, Option.elim_some, List.getElem?_cons_zero, decide_false, if_false, Bool.false_eq_true, wBin_sub64, hi', hg2, d2]
  clear hih
  obtain ⟨order, hord, hond, holt, holen⟩ := perm_order hpok
  have hl32 : l.length ≤ 32 := by omega
  generalize hK : hs (hs H2 nx2 (some (.cells (i64s (List.replicate 32 0)) 0))) (nx2 + 1) (some (.cells (i64s (List.replicate 32 0)) 0)) = K
  have kO : getH K nx2 = some (.cells (i64s (List.replicate 32 0)) 0) := by rw [← hK, getH_ne _ (by omega), getH_same]
  have kP : getH K (nx2 + 1) = some (.cells (i64s (List.replicate 32 0)) 0) := by rw [← hK, getH_same]
  have hEK : Ext H2 nx2 K (nx2 + 1 + 1) := by rw [← hK]; exact ((Ext.self (by omega) : Ext H2 nx2 H2 (nx2 + 1 + 1)).hs (by omega)).hs (by omega)
  have kG := (hEK.get nx (by omega)).trans hg2
  have z32 : (i64s (List.replicate 32 0)).length = 32 := by rw [i64s_length]; simp
  rw [slA_all, wCopy_row kO (src_any (hP.ext (hEE2.trans hEK)) (hP0.ext (hEE2.trans hEK)) (by rw [i64s_length]; omega) (by omega)) hl32 (oneCells_i64s l) (by rw [i64s_length, z32]; exact hl32), copy_i64s hl32]
  -- the order
  refine wLoop_rule (m := f) (fun m L H' nx' => ∃ (i : Nat) (ol : List Int), m + i = f ∧ L = [.int .i64 (i : Int)] ∧ ol.length = 32 ∧ (∀ j, j < l.length + i → ol[j]? = (l ++ downTo f f)[j]?) ∧
    getH H' nx2 = some (.cells (i64s ol) 0) ∧ (∀ q, q ≠ nx2 → getH H' q = getH K q) ∧ nx2 + 1 + 1 = nx') ?_ ⟨0, l ++ List.replicate (32 - l.length) 0, rfl, rfl, by simp; omega, fun j hj => by
      rw [List.getElem?_append_left (by omega), List.getElem?_append_left (by omega)], getH_same _ _ _, fun q hq => getH_ne _ hq, rfl⟩
  rintro m3 ih3 L3 H3 _ ⟨i3, ol, hm3, rfl, holn, hov, hO3, hsame3, rfl⟩ hih3
  simp (config := { maxSteps := 2000000 }) (disch := first | omega | assumption | exact shr_lt (by assumption) | exact ndiff32 (by assumption) | exact below_lt (by omega) | fail) only [List.getD_cons_zero, wBin_lss, wIf_bool, wBin_add64, wBin_sub64]
  by_cases hi3 : i3 < f
  case pos =>
    have hi3' : (i3 : Int) < (f : Int) := by omega
    have hidx : ((l.length : Int) + (i3 : Int)).toNat = l.length + i3 := by omega
    have hb3 : l.length + i3 < ol.length := by omega
    have hol3 : (i64s ol).length = 32 := by rw [i64s_length]; exact holn
    simp (disch := first | omega | assumption | exact shr_lt (by assumption) | exact ndiff32 (by assumption) | exact below_lt (by omega) | fail) only [decide_true, if_true, Nat.zero_add, wIdx_array, Nat.mul_one, wSt_int, stP_cells, List.length_cons, List.length_nil, Nat.reduceLeDiff, hi3', hidx, hO3, putL_i64s hb3, hol3]
    refine ⟨by omega, hih3 (m3 - 1) _ _ _ (by omega) ⟨i3 + 1, ol.set (l.length + i3) ((f : Int) - 1 - i3), by omega, by simp, by rw [List.length_set]; exact holn, fun j hj => ?_, getH_same _ _ _, fun q hq => by rw [getH_ne _ hq]; exact hsame3 q hq, rfl⟩⟩
    rw [List.getElem?_set]
    by_cases hjj : l.length + i3 = j
    · subst hjj
      rw [if_pos rfl, if_pos (by omega), List.getElem?_append_right (by omega), Nat.add_sub_cancel_left, downTo_get hi3]
    · rw [if_neg hjj]; exact hov j (by omega)
  have hi3' : ¬ (i3 : Int) < (f : Int) := by omega
  have hi3e : i3 = f := by omega
  subst hi3e
  have hon : ∀ (j w : Nat), order[j]? = some w → ol[j]? = some (w : Int) := by
    intro j w hj
    rw [hov j (by have := lt_len hj; omega), hord]
    simp [hj]
  have hG3 := (hsame3 nx (by omega)).trans kG
  simp (config := { maxSteps := 2000000 }) (disch := first | omega | assumption | exact shr_lt (by assumption) | exact ndiff32 (by assumption) | exact below_lt (by omega) | fail) only [ldP_cells, cellP_one, Option.elim_some, List.getElem?_cons_zero, decide_false, if_false, Bool.false_eq_true, hi3', hG3]
  clear hih3
  -- the places
  refine wLoop_rule (m := n) (fun m L H' nx' => ∃ (i : Nat) (pl : List Int), m + i = n ∧ L = [.int .i64 (i : Int)] ∧ pl.length = 32 ∧ (∀ j w : Nat, order[j]? = some w → j < i → pl[w]? = some (j : Int)) ∧
    getH H' (nx2 + 1) = some (.cells (i64s pl) 0) ∧ (∀ q, q ≠ nx2 + 1 → getH H' q = getH H3 q) ∧ nx2 + 1 + 1 = nx') ?_ ⟨0, List.replicate 32 0, rfl, rfl, by simp, fun j w _ h => by omega, by rw [hsame3 (nx2 + 1) (by omega)]; exact kP, fun q hq => rfl, rfl⟩
  rintro m4 ih4 L4 H4 _ ⟨i4, pl, hm4, rfl, hpln, hpv, hP4, hsame4, rfl⟩ hih4
  have hO4 := (hsame4 nx2 (by omega)).trans hO3
  have hG4 := (hsame4 nx (by omega)).trans hG3
  simp (config := { maxSteps := 2000000 }) (disch := first | omega | assumption | exact shr_lt (by assumption) | exact ndiff32 (by assumption) | exact below_lt (by omega) | fail) only [List.getD_cons_zero, wBin_lss, wIf_bool, wBin_add64]
  by_cases hi4 : i4 < n
  case pos =>
    have hi4' : (i4 : Int) < (n : Int) := by omega
    obtain ⟨w, hw⟩ : ∃ w, order[i4]? = some w := ⟨_, List.getElem?_eq_getElem (by omega)⟩
    have hwn : w < n := holt w (List.mem_of_getElem? hw)
    have gw := i64s_get (hon i4 w hw)
    have hb4 : w < pl.length := by omega
    have hpl4 : (i64s pl).length = 32 := by rw [i64s_length]; exact hpln
    simp (disch := first | omega | assumption | exact shr_lt (by assumption) | exact ndiff32 (by assumption) | exact below_lt (by omega) | fail) only [wLd_none, ldP_cells, cellP_one, Option.elim_some, decide_true, if_true, Nat.zero_add, wIdx_array, Int.toNat_natCast, Nat.mul_one, wSt_int, stP_cells, List.length_cons, List.length_nil, Nat.reduceLeDiff, hi4', hO4, gw, hP4, putL_i64s hb4, hpl4]
    refine ⟨by omega, hih4 (m4 - 1) _ _ _ (by omega) ⟨i4 + 1, pl.set w (i4 : Int), by omega, by simp, by rw [List.length_set]; exact hpln, fun j u hj hji => ?_, getH_same _ _ _, fun q hq => by rw [getH_ne _ hq]; exact hsame4 q hq, rfl⟩⟩
    rw [List.getElem?_set]
    by_cases huw : w = u
    · subst huw
      rw [if_pos rfl, if_pos (by omega), nodup_at hond hj hw]
    · rw [if_neg huw]
      refine hpv j u hj ?_
      have : j ≠ i4 := by intro e; subst e; rw [hw] at hj; cases hj; exact huw rfl
      omega
  have hi4' : ¬ (i4 : Int) < (n : Int) := by omega
  have hi4e : i4 = n := by omega
  subst hi4e
  simp (config := { maxSteps := 2000000 }) (disch := first | omega | assumption | exact shr_lt (by assumption) | exact ndiff32 (by assumption) | exact below_lt (by omega) | fail) only [ldP_cells, decide_false, if_false, Bool.false_eq_true, hi4', hG4, cellP_lit2]
  clear hih4
  have hE4 : Ext H nx H4 (nx2 + 1 + 1) := ⟨by omega, fun q hq => by
    rw [hsame4 q (by omega), hsame3 q (by omega), hEK.get q (by omega)]; exact hEE2.get q hq⟩
  have hgc : gcode i4 es = 0 := by
    unfold fcode at hfc
    split at hfc
    · assumption
    · rename_i h; exact Decidable.of_not_not h
  refine wCall_rule (adj33 hn A es cap _ _ (hS.ext hE4) hes hle hgc) ?_
  rintro _ H5 nx5 ⟨rfl, hE5⟩
  have hnx5 := hE5.le
  have e1 : (u32s (nears es i4)).length = 32 := by rw [u32s_length]; exact nears_len es i4
  have e2 : (u32s (List.replicate 32 0)).length = 32 := by rw [u32s_length]; simp
  have e3 := putL_all (c := u32s (List.replicate 32 0)) (vs := u32s (nears es i4)) (by rw [e1, e2])
  have e4 := oneCells_u32s (nears es i4)
  have hn6 : i4 ≤ 1000000 := by omega
  have hG5 := (hE5.get nx (by omega)).trans hG4
  have hO5 := (hE5.get nx2 (by omega)).trans hO4
  have hP5 := (hE5.get (nx2 + 1) (by omega)).trans hP4
  simp (config := { maxSteps := 2000000 }) (disch := first | omega | assumption | exact shr_lt (by assumption) | exact ndiff32 (by assumption) | exact below_lt (by omega) | fail) only [ldP_cells, cellP_one, getH_same, getH_ne, Option.elim_some, List.getElem?_cons_zero, if_true, Nat.zero_add, true_and, and_self, wSt_agg, stP_cells, Nat.le_refl, e1, e2, e3, e4, hG5, dMsl_eq hn6, repeat_bag]
  generalize hK5 : hs (hs (hs H5 nx5 (some (.cells (u32s (List.replicate 32 0)) 0))) nx5 (some (.cells (u32s (nears es i4)) 0))) (nx5 + 1) (some (.cells (bagsC (List.replicate i4 zeroBag)) 0)) = K5
  have hEK5 : Ext H5 nx5 K5 (nx5 + 1 + 1) := by rw [← hK5]; exact (((Ext.self (by omega) : Ext H5 nx5 H5 (nx5 + 1 + 1)).hs (by omega)).hs (by omega)).hs (by omega)
  have m0 : M13 K5 (nx5 + 1 + 1) nx5 (nx5 + 1) (nears es i4) (List.replicate i4 zeroBag) K5 := by
    refine ⟨?_, ?_, fun _ _ _ _ => rfl⟩
    · rw [← hK5, getH_ne _ (by omega), getH_same]
    · rw [← hK5, getH_same]
  have hG6 := (hEK5.get nx (by omega)).trans hG5
  have hO6 := (hEK5.get nx2 (by omega)).trans hO5
  have hP6 := (hEK5.get (nx2 + 1) (by omega)).trans hP5
  have hEE5 : Ext H nx K5 (nx5 + 1 + 1) := (hE4.trans hE5).trans hEK5
  -- the elimination
  refine wLoop_rule (m := i4) (fun m L H' nx' => ∃ (i : Nat) (nl : List Nat) (out : List Bag) (N : Nb), m + i = i4 ∧ L = [.int .i64 (i : Int)] ∧ M13 K5 (nx5 + 1 + 1) nx5 (nx5 + 1) nl out H' ∧ nl.length = 32 ∧ (∀ a ∈ order.drop i, nl[a]? = some (maskOf (keyB N a (order.drop i)) i4)) ∧ NbOK N ∧ out.length = i4 ∧
    outs i4 out N (order.drop i) = outs i4 (List.replicate i4 zeroBag) (adj es) order ∧ nx5 + 1 + 1 ≤ nx') ?_ ⟨0, nears es i4, List.replicate i4 zeroBag, adj es, rfl, rfl, m0, nears_len es i4, fun a ha => by
      have ha2 : a ∈ order := ha
      rw [nears_get es hn (holt a ha2)]
      congr 1
      refine maskOf_congr fun w hw => ?_
      have := order_all hond holt holen hw
      simp [keyB, this], adj_ok es, by simp, rfl, Nat.le_refl _⟩
  rintro m7 ih7 L7 H7 nx7 ⟨j, nl, out, N, hm7, rfl, hM, hnll, hnv, hNb, hol, hout, hx7⟩ hih7
  simp (config := { maxSteps := 2000000 }) (disch := first | omega | assumption | exact shr_lt (by assumption) | exact ndiff32 (by assumption) | exact below_lt (by omega) | fail) only [List.getD_cons_zero, wBin_lss, wIf_bool, wBin_add64]
  by_cases hj : j < i4
  case neg =>
    have hj' : ¬ (j : Int) < (i4 : Int) := by omega
    simp (config := { maxSteps := 2000000 }) (disch := first | omega | assumption | exact shr_lt (by assumption) | exact ndiff32 (by assumption) | exact below_lt (by omega) | fail) only [decide_false, if_false, Bool.false_eq_true, hj']
    rw [List.drop_of_length_le (by omega)] at hout
    refine good ⟨by have := hEE5.le; omega, fun q hq => by rw [hM.same q (by have := hEE5.le; omega) (by omega) (by omega)]; exact hEE5.get q hq⟩ (.inr ⟨hpok, order, hord, hond, holt, holen, _, rfl, fun q u hu => ⟨nx5 + 1, 0, bagsC out, rfl, by omega, by rw [rowOf, hM.out]; rfl, ?_⟩⟩)
    rw [Nat.zero_add]
    have : out = outs i4 (List.replicate i4 zeroBag) (adj es) order := hout
    rw [this]; exact hu
  have hj' : (j : Int) < (i4 : Int) := by omega
  obtain ⟨v, hv⟩ : ∃ v, order[j]? = some v := ⟨_, List.getElem?_eq_getElem (by omega)⟩
  have hvn : v < i4 := holt v (List.mem_of_getElem? hv)
  have hdrop := drop_get hv
  generalize hrest : order.drop (j + 1) = rest at hdrop
  have hvr : v ∉ rest := by rw [← hrest]; exact not_mem_drop hond hv
  rw [hdrop] at hnv hout
  have hO7 := (hM.same nx2 (by omega) (by omega) (by omega)).trans hO6
  have hP7 := (hM.same (nx2 + 1) (by omega) (by omega) (by omega)).trans hP6
  have hG7 := (hM.same nx (by omega) (by omega) (by omega)).trans hG6
  have gv7 := i64s_get (hon j v hv)
  have hkv := hnv v List.mem_cons_self
  rw [key_self hNb] at hkv
  have gk7 := u32s_get hkv
  have hbld : ∀ kk, wBuild [.int .i64 0, .int .u32 0, .int .i64 0] [(0, 1), (1, 1), (2, 1)] [(0, .int .i64 (v : Int)), (1, .int .u32 ((maskOf (keyB N v rest) i4 : Nat) : Int)), (2, .int .i64 (-1))] kk = kk (.agg ⟨[.int .i64 (v : Int), .int .u32 ((maskOf (keyB N v rest) i4 : Nat) : Int), .int .i64 (-1)]⟩) := fun _ => rfl
  simp (config := { maxSteps := 2000000 }) (disch := first | omega | assumption | exact shr_lt (by assumption) | exact ndiff32 (by assumption) | exact below_lt (by omega) | fail) only [oneCells, wLd_none, ldP_cells, cellP_one, getH_same, getH_ne, Option.elim_some, List.getElem?_cons_zero, decide_true, if_true, Nat.zero_add, true_and, and_self, wIdx_slice, wIdx_array, Int.toNat_natCast, Nat.mul_one, wSt_agg, stP_cells, wBin_shl32, List.length_cons, List.length_nil, Nat.le_refl, Nat.reduceAdd, hj', hO7, gv7, hM.near, gk7, hbld, putL_lit3, hG7]
  have hkey32 := maskOf32 hn (keyB N v rest)
  generalize hHB : hs (hs H7 nx7 (some (.cells [.int .i64 0, .int .u32 0, .int .i64 0] 0))) nx7 (some (.cells [.int .i64 (v : Int), .int .u32 ((maskOf (keyB N v rest) i4 : Nat) : Int), .int .i64 (-1)] 0)) = HB
  have mB : M13 K5 (nx5 + 1 + 1) nx5 (nx5 + 1) nl out HB := by rw [← hHB]; exact (hM.setNew hx7 (by omega) (by omega) _).setNew hx7 (by omega) (by omega) _
  have gB : getH HB nx7 = some (.cells [.int .i64 (v : Int), .int .u32 ((maskOf (keyB N v rest) i4 : Nat) : Int), .int .i64 (-1)] 0) := by rw [← hHB, getH_same]
  refine wLoop_rule (m := i4) (fun m L H' nx' => ∃ (u : Nat) (nl : List Nat) (par : Int), m + u = i4 ∧ L = [.int .i64 (u : Int)] ∧ M13 K5 (nx5 + 1 + 1) nx5 (nx5 + 1) nl out H' ∧ getH H' nx7 = some (.cells [.int .i64 (v : Int), .int .u32 ((maskOf (keyB N v rest) i4 : Nat) : Int), .int .i64 par] 0) ∧ nl.length = 32 ∧
    (∀ a ∈ rest, nl[a]? = some (maskOf (if a < u then keyB (stepN N v rest) a rest else keyB N a (v :: rest)) i4)) ∧ ParI N v order rest u par ∧ nx7 + 1 ≤ nx') ?_ ⟨0, nl, -1, rfl, rfl, mB, gB, hnll, fun a ha => by rw [hnv a (List.mem_cons_of_mem _ ha)]; simp, .inl ⟨rfl, fun w h => by omega⟩, Nat.le_refl _⟩
  rintro m8 ih8 L8 H8 nx8 ⟨u, nl8, par, hm8, rfl, hM8, gB8, hnl8, hnv8, hpar, hx8⟩ hih8
  simp (config := { maxSteps := 2000000 }) (disch := first | omega | assumption | exact shr_lt (by assumption) | exact ndiff32 (by assumption) | exact below_lt (by omega) | fail) only [List.getD_cons_zero, wBin_lss, wIf_bool, wBin_add64, wSt_int]
  by_cases hu : u < i4
  case neg =>
    have hu' : ¬ (u : Int) < (i4 : Int) := by omega
    have hui : u = i4 := by omega
    subst hui
    have hpe : par = parB N v rest := by rw [← hrest] at hpar ⊢; exact par_min hond holt hpar
    have hset : putL (bagsC out) (v * 3) [.int .i64 (v : Int), .int .u32 ((maskOf (keyB N v rest) u : Nat) : Int), .int .i64 par] = bagsC (out.set v (bagOf u N v rest)) := by
      rw [hpe]; exact bagsC_set (b := bagOf u N v rest) (by omega)
    have hbl : (bagsC out).length = u * 3 := by rw [bagsC_length, hol]
    simp (config := { maxSteps := 2000000 }) (disch := first | omega | assumption | exact shr_lt (by assumption) | exact ndiff32 (by assumption) | exact below_lt (by omega) | fail) only [wBin_lss, wBin_eql, wIf_bool, wGuard_false, oneCells, ldP_cells, cellP_one, Option.elim_some, List.getElem?_cons_zero, List.getElem?_cons_succ, decide_false, if_true, if_false, Bool.false_eq_true, Nat.zero_add, and_true, true_and, and_self, wSt_agg, stP_cells, bit_zero', wBin_shr32, wBin_and1, u32_eq_zero, List.length_cons, List.length_nil, Nat.reduceAdd, hu', gB8, cellP_lit3, hM8.out, hset, hbl]
    refine ⟨by omega, hih7 (m7 - 1) _ _ _ (by omega) ⟨j + 1, nl8, _, stepN N v rest, by omega, by simp, hM8.setOut (by omega) _, hnl8, fun a ha => ?_, step_ok hNb v rest, by rw [List.length_set]; exact hol, by rw [hrest, ← hout]; rfl, by omega⟩⟩
    rw [hrest] at ha ⊢
    have han : a < u := holt a (List.mem_of_mem_drop (hrest ▸ ha))
    rw [hnv8 a ha, if_pos han]
  have hu' : (u : Int) < (i4 : Int) := by omega
  have kbit : (maskOf (keyB N v rest) i4).testBit u = keyB N v rest u := by rw [maskOf_bit]; simp [hu]
  simp (config := { maxSteps := 2000000 }) (disch := first | omega | assumption | exact shr_lt (by assumption) | exact ndiff32 (by assumption) | exact below_lt (by omega) | fail) only [wBin_lss, wBin_eql, wIf_bool, wGuard_false, wLd_none, ldP_cells, cellP_one, Option.elim_some, List.getElem?_cons_zero, List.getElem?_cons_succ, decide_true, if_true, Nat.zero_add, and_true, true_and, wIdx_array, Int.toNat_natCast, Nat.mul_one, bit_zero', wBin_shr32, wBin_and1, wBin_shl32, u32_eq_zero, hu', gB8]
  rw [wJoin_eq, kbit]
  cases hk : keyB N v rest u with
  | false =>
    simp (config := { maxSteps := 2000000 }) (disch := first | omega | assumption | exact shr_lt (by assumption) | exact ndiff32 (by assumption) | exact below_lt (by omega) | fail) only [if_true, Bool.not_false]
    refine hih8 (m8 - 1) _ _ _ (by omega) ⟨u + 1, nl8, par, by omega, by simp, hM8, gB8, hnl8, fun a ha => ?_, ?_, hx8⟩
    · rw [hnv8 a ha]
      by_cases h1 : a < u
      · rw [if_pos h1, if_pos (by omega)]
      · rw [if_neg h1]
        by_cases h2 : a = u
        · subst h2; rw [if_pos (by omega), nb_skip hNb ha hk]
        · rw [if_neg (by omega)]
    · rcases hpar with ⟨h1, h2⟩ | ⟨p, jp, h1, h2, h3, h4⟩
      · refine .inl ⟨h1, fun w hw => ?_⟩
        by_cases hwu : w = u
        · subst hwu; exact hk
        · exact h2 w (by omega)
      · refine .inr ⟨p, jp, h1, h2, h3, fun w jw hw hjw hkw => ?_⟩
        by_cases hwu : w = u
        · subst hwu; rw [hk] at hkw; cases hkw
        · exact h4 w jw (by omega) hjw hkw
  | true =>
    simp (config := { maxSteps := 2000000 }) (disch := first | omega | assumption | exact shr_lt (by assumption) | exact ndiff32 (by assumption) | exact below_lt (by omega) | fail) only [if_false, Bool.false_eq_true, Bool.not_true]
    have hur : u ∈ rest := by simp [keyB] at hk; exact hk.2
    obtain ⟨ju, hju⟩ : ∃ ju, order[ju]? = some u := List.getElem?_of_mem (List.mem_of_mem_drop (hrest ▸ hur))
    have hP8 := (hM8.same (nx2 + 1) (by omega) (by omega) (by omega)).trans hP6
    have gu := i64s_get (hpv ju u hju (by have := lt_len hju; omega))
    refine wJoin_rule (fun L H' nx' => ∃ par', L = [] ∧ M13 K5 (nx5 + 1 + 1) nx5 (nx5 + 1) nl8 out H' ∧ getH H' nx7 = some (.cells [.int .i64 (v : Int), .int .u32 ((maskOf (keyB N v rest) i4 : Nat) : Int), .int .i64 par'] 0) ∧ ParI N v order rest (u + 1) par' ∧ nx7 + 1 ≤ nx') ?_ ?_
    · intro jk hjk
      rw [wJoin_eq]
      have hput : ∀ a b c x : Value, putL [a, b, c] 2 [x] = [a, b, x] := fun _ _ _ _ => rfl
      have hnew : ParI N v order rest (u + 1) u → ∀ nx', nx7 + 1 ≤ nx' → jk [] (hs H8 nx7 (some (.cells [.int .i64 (v : Int), .int .u32 ((maskOf (keyB N v rest) i4 : Nat) : Int), .int .i64 (u : Int)] 0))) nx' :=
        fun h nx' hx => hjk _ _ _ ⟨u, rfl, hM8.setNew hx7 (by omega) (by omega) _, getH_same _ _ _, h, hx⟩
      rcases hpar with ⟨rfl, h2⟩ | ⟨p, jp, rfl, h2, h3, h4⟩
      · have hneg : (-1 : Int) < 0 := by omega
        simp (config := { maxSteps := 2000000 }) (disch := first | omega | assumption | exact shr_lt (by assumption) | exact ndiff32 (by assumption) | exact below_lt (by omega) | fail) only [List.getD_cons_zero, wIf_bool, decide_true, if_true, Nat.zero_add, true_and, stP_cells, List.length_cons, List.length_nil, Nat.le_refl, Nat.reduceAdd, gB8, hneg, hput]
        refine hnew (.inr ⟨u, ju, rfl, hju, hk, fun w jw hw hjw hkw => ?_⟩) _ (by omega)
        by_cases hwu : w = u
        · subst hwu; rw [nodup_at hond hju hjw]; exact Nat.le_refl _
        · rw [h2 w (by omega)] at hkw; cases hkw
      · have hpn : ¬ (p : Int) < 0 := by omega
        have hp4 : p < i4 := holt p (List.mem_of_getElem? h2)
        have gp := i64s_get (hpv jp p h2 (by have := lt_len h2; omega))
        by_cases hlt : ju < jp
        · have hlt' : (ju : Int) < (jp : Int) := by omega
          simp (config := { maxSteps := 2000000 }) (disch := first | omega | assumption | exact shr_lt (by assumption) | exact ndiff32 (by assumption) | exact below_lt (by omega) | fail) only [List.getD_cons_zero, wBin_lss, wIf_bool, wLd_none, ldP_cells, cellP_one, Option.elim_some, decide_true, decide_false, if_true, if_false, Bool.false_eq_true, Nat.zero_add, true_and, wIdx_array, Int.toNat_natCast, Nat.mul_one, stP_cells, List.length_cons, List.length_nil, Nat.le_refl, Nat.reduceAdd, gB8, hpn, hP8, gu, gp, hlt', hput]
          refine hnew (.inr ⟨u, ju, rfl, hju, hk, fun w jw hw hjw hkw => ?_⟩) _ (by omega)
          by_cases hwu : w = u
          · subst hwu; rw [nodup_at hond hju hjw]; exact Nat.le_refl _
          · have := h4 w jw (by omega) hjw hkw; omega
        · have hlt' : ¬ (ju : Int) < (jp : Int) := by omega
          simp (config := { maxSteps := 2000000 }) (disch := first | omega | assumption | exact shr_lt (by assumption) | exact ndiff32 (by assumption) | exact below_lt (by omega) | fail) only [List.getD_cons_zero, wBin_lss, wIf_bool, wLd_none, ldP_cells, cellP_one, Option.elim_some, decide_false, if_true, if_false, Bool.false_eq_true, Nat.zero_add, true_and, wIdx_array, Int.toNat_natCast, Nat.mul_one, stP_cells, List.length_cons, List.length_nil, Nat.le_refl, Nat.reduceAdd, gB8, hpn, hP8, gu, gp, hlt']
          refine hjk _ _ _ ⟨p, rfl, hM8, gB8, .inr ⟨p, jp, rfl, h2, h3, fun w jw hw hjw hkw => ?_⟩, by omega⟩
          by_cases hwu : w = u
          · subst hwu; rw [← nodup_at hond hju hjw]; omega
          · exact h4 w jw (by omega) hjw hkw
    · rintro _ H9 nx9 ⟨par', rfl, hM9, gB9, hpar9, hx9⟩
      have hcur := hnv8 u hur
      rw [if_neg (by omega)] at hcur
      have gcur := u32s_get hcur
      have hc32 := maskOf32 hn (keyB N u (v :: rest))
      have hu32 : 2 ^ u < 4294967296 := pow32 (by omega)
      have hv32 : 2 ^ v < 4294967296 := pow32 (by omega)
      have ho1 := or32 hc32 hkey32
      have ho2 := or32 hu32 hv32
      have hul : u < nl8.length := by omega
      have hlen9 : (u32s nl8).length = 32 := by rw [u32s_length]; exact hnl8
      have hnb := nb_step hNb (n := i4) hvr hk
      simp (config := { maxSteps := 2000000 }) (disch := first | omega | assumption | exact shr_lt (by assumption) | exact ndiff32 (by assumption) | exact below_lt (by omega) | fail) only [ldP_cells, cellP_one, Option.elim_some, List.getElem?_cons_zero, List.getElem?_cons_succ, Nat.zero_add, true_and, wSt_int, stP_cells, wBin_andNot32, wBin_or32, List.length_cons, List.length_nil, Nat.reduceLeDiff, hM9.near, gcur, gB9, putL_u32s hul, hlen9]
      refine ⟨by omega, hih8 (m8 - 1) _ _ _ (by omega) ⟨u + 1, nl8.set u (ndiff (maskOf (keyB N u (v :: rest)) i4 ||| maskOf (keyB N v rest) i4) (2 ^ u ||| 2 ^ v)), par', by omega, by simp, hM9.setNear (by omega) _, by rw [getH_ne _ (by omega)]; exact gB9, by rw [List.length_set]; exact hnl8, fun a ha => ?_, hpar9, by omega⟩⟩
      rw [List.getElem?_set]
      by_cases h2 : u = a
      · subst h2; rw [if_pos rfl, if_pos hul, if_pos (by omega), hnb]
      · rw [if_neg h2, hnv8 a ha]
        by_cases h1 : a < u
        · rw [if_pos h1, if_pos (by omega)]
        · rw [if_neg h1, if_neg (by omega)]
end Go.Proofs.Ytaieijjfabbfeaa

set_option linter.unusedSimpArgs false
set_option linter.unusedVariables false
set_option linter.unusedSectionVars false
namespace Go.Proofs.Ytaieijjfabbfeaa
open Go.Clo

/-- The neighbors before step j. -/
def iter : Nb → List Nat → Nat → Nb
  | N, _, 0 => N
  | N, [], _ + 1 => N
  | N, v :: rest, j + 1 => iter (stepN N v rest) rest j
theorem iter_succ : ∀ {order : List Nat} {N : Nb} {j v : Nat}, order[j]? = some v → iter N order (j + 1) = stepN (iter N order j) v (order.drop (j + 1))
  | [], N, j, v, h => by simp at h
  | x :: rest, N, 0, v, h => by
    simp at h; subst h
    show iter (stepN N x rest) rest 0 = _
    cases rest <;> rfl
  | x :: rest, N, j + 1, v, h => by
    have h2 : rest[j]? = some v := by simpa using h
    show iter (stepN N x rest) rest (j + 1) = stepN (iter (stepN N x rest) rest j) v _
    rw [iter_succ h2]; rfl
theorem iter_mono {order : List Nat} {N : Nb} {a b j : Nat} (h : iter N order j a b = true) : ∀ k, j ≤ k → k ≤ order.length → iter N order k a b = true
  | 0, hk, _ => by
    have : j = 0 := by omega
    subst this; exact h
  | k + 1, hk, hl => by
    by_cases hjk : j = k + 1
    · subst hjk; exact h
    · have ih := iter_mono h k (by omega) (by omega)
      rw [iter_succ (List.getElem?_eq_getElem (by omega))]
      simp [stepN, ih]
theorem outs_not {n : Nat} : ∀ {order : List Nat} {out : List Bag} {N : Nb} {v : Nat}, v ∉ order → (outs n out N order)[v]? = out[v]?
  | [], _, _, _, _ => rfl
  | x :: rest, out, N, v, h => by
    simp only [List.mem_cons, not_or] at h
    rw [outs, outs_not h.2, List.getElem?_set, if_neg (fun e => h.1 e.symm)]
theorem outs_get {n : Nat} : ∀ {order : List Nat} {out : List Bag} {N : Nb} {j v : Nat}, order.Nodup → (∀ w ∈ order, w < out.length) → order[j]? = some v → (outs n out N order)[v]? = some (bagOf n (iter N order j) v (order.drop (j + 1)))
  | [], _, _, _, _, _, _, h => by simp at h
  | x :: rest, out, N, 0, v, hnd, hlt, h => by
    simp at h; subst h
    rw [List.nodup_cons] at hnd
    rw [outs, outs_not hnd.1, List.getElem?_set, if_pos rfl, if_pos (hlt x List.mem_cons_self)]; rfl
  | x :: rest, out, N, j + 1, v, hnd, hlt, h => by
    rw [List.nodup_cons] at hnd
    have h2 : rest[j]? = some v := by simpa using h
    rw [outs, outs_get hnd.2 (fun w hw => by rw [List.length_set]; exact hlt w (List.mem_cons_of_mem _ hw)) h2]; rfl

theorem lt_of_bits2 {x v : Nat} (h : ∀ i, v ≤ i → x.testBit i = false) : x < 2 ^ v := Nat.lt_pow_two_of_testBit x h

theorem mem_drop_at {order : List Nat} {j w : Nat} (h : w ∈ order.drop (j + 1)) : ∃ k, j < k ∧ order[k]? = some w := by
  obtain ⟨s, hs, e⟩ := List.getElem_of_mem h
  exact ⟨j + 1 + s, by omega, by rw [← e, ← List.getElem?_drop]; exact List.getElem?_eq_getElem hs⟩
theorem at_mem_drop {order : List Nat} {j k w : Nat} (hjk : j < k) (h : order[k]? = some w) : w ∈ order.drop (j + 1) := by
  have : (order.drop (j + 1))[k - (j + 1)]? = some w := by rw [List.getElem?_drop]; rw [show j + 1 + (k - (j + 1)) = k by omega]; exact h
  exact List.mem_of_getElem? this

theorem key_bit {n : Nat} {N : Nb} {v w : Nat} {rest : List Nat} : (maskOf (keyB N v rest) n).testBit w = (decide (w < n) && (N v w && decide (w ∈ rest))) := by rw [maskOf_bit]; rfl

/-- The parent of a bag: none, or the first later neighbor. -/
theorem par_cases (n : Nat) (N : Nb) (v : Nat) (order : List Nat) (j : Nat) (hlt : ∀ w ∈ order, w < n) :
    (parB N v (order.drop (j + 1)) = -1 ∧ maskOf (keyB N v (order.drop (j + 1))) n = 0) ∨
    ∃ w k : Nat, parB N v (order.drop (j + 1)) = w ∧ j < k ∧ order[k]? = some w ∧ N v w = true ∧ w < n ∧ ∀ (k' : Nat) (w' : Nat), j < k' → k' < k → order[k']? = some w' → N v w' = false := by
  unfold parB
  cases hf : (order.drop (j + 1)).find? (N v) with
  | none =>
    rw [List.find?_eq_none] at hf
    refine .inl ⟨rfl, ?_⟩
    apply Nat.eq_of_testBit_eq
    intro i
    rw [key_bit, Nat.zero_testBit]
    by_cases hi : i ∈ order.drop (j + 1)
    · have := hf i hi
      simp at this; simp [this]
    · simp [hi]
  | some w0 =>
    obtain ⟨hw0, t, ht, hte, hbefore⟩ := List.find?_eq_some_iff_getElem.mp hf
    have h0 : order[j + 1 + t]? = some w0 := by
      rw [← hte, ← List.getElem?_drop]; exact List.getElem?_eq_getElem ht
    refine .inr ⟨w0, j + 1 + t, rfl, by omega, h0, hw0, hlt w0 (List.mem_of_getElem? h0), fun k' w' h1 h2 h3 => ?_⟩
    have hb := hbefore (k' - (j + 1)) (by omega)
    have e : (order.drop (j + 1))[k' - (j + 1)]? = some w' := by rw [List.getElem?_drop, show j + 1 + (k' - (j + 1)) = k' by omega]; exact h3
    rw [(List.getElem?_eq_some_iff.mp e).2] at hb
    simpa using hb

theorem good_bags {n f : Nat} {es : List Nat} {l : List Int} {order : List Nat} (hn : n ≤ 32) (hes : ∀ e ∈ es, e < 2 ^ n) (hp : permOK l f n) (hord : l ++ downTo f f = order.map fun (w : Nat) => (w : Int)) (hnd : order.Nodup) (hlt : ∀ w ∈ order, w < n) (hlen : order.length = n) :
    ccode n f es (outs n (List.replicate n zeroBag) (adj es) order) = 0 := by
  generalize hbs : outs n (List.replicate n zeroBag) (adj es) order = bs
  have hbl : bs.length = n := by rw [← hbs, outs_len]; simp
  have hget : ∀ (j v : Nat), order[j]? = some v → bs[v]? = some (bagOf n (iter (adj es) order j) v (order.drop (j + 1))) := fun j v h => by
    rw [← hbs]; exact outs_get hnd (fun w hw => by simp; exact hlt w hw) h
  have hidx : ∀ v, v < n → ∃ j, order[j]? = some v := fun v hv => List.getElem?_of_mem (order_all hnd hlt hlen hv)
  have hinv : ∀ (v : Nat) (b : Bag), bs[v]? = some b → ∃ j, order[j]? = some v ∧ b = bagOf n (iter (adj es) order j) v (order.drop (j + 1)) := fun v b hb => by
    obtain ⟨j, hj⟩ := hidx v (by have := lt_len hb; omega)
    have := hget j v hj
    rw [hb] at this; cases this
    exact ⟨j, hj, rfl⟩
  -- the places of the free variables
  have hdown : ∀ (j v : Nat), order[j]? = some v → v < f → ∀ w ∈ order.drop (j + 1), w < v := by
    have hval : ∀ (j v : Nat), order[j]? = some v → v < f → l.length ≤ j ∧ (v : Int) = (f : Int) - 1 - (j - l.length : Nat) := by
      intro j v hj hv
      have h1 : (l ++ downTo f f)[j]? = some (v : Int) := by rw [hord]; simp [hj]
      by_cases hjl : j < l.length
      · rw [List.getElem?_append_left hjl] at h1
        have := hp.2.1 _ (List.mem_of_getElem? h1)
        omega
      · rw [List.getElem?_append_right (by omega)] at h1
        have hj2 : j - l.length < f := by have := lt_len h1; rw [downTo_length] at this; exact this
        rw [downTo_get hj2] at h1
        refine ⟨by omega, ?_⟩
        have h3 : (f : Int) - 1 - (j - l.length : Nat) = (v : Int) := Option.some.inj h1
        omega
    intro j v hj hv w hw
    obtain ⟨k, hjk, hk⟩ := mem_drop_at hw
    obtain ⟨h1, h2⟩ := hval j v hj hv
    have h3 : (l ++ downTo f f)[k]? = some (w : Int) := by rw [hord]; simp [hk]
    rw [List.getElem?_append_right (by omega)] at h3
    have hk2 : k - l.length < f := by have := lt_len h3; rw [downTo_length] at this; exact this
    rw [downTo_get hk2] at h3
    have h4 : (f : Int) - 1 - (k - l.length : Nat) = (w : Int) := Option.some.inj h3
    omega
  have hb0 : ∀ (v : Nat) (b : Bag), bs[v]? = some b → bcode n f v b = 0 := by
    intro v b hb
    obtain ⟨j, hj, rfl⟩ := hinv v b hb
    generalize hN : iter (adj es) order j = N
    have hvr : v ∉ order.drop (j + 1) := not_mem_drop hnd hj
    have hself : (maskOf (keyB N v (order.drop (j + 1))) n).testBit v = false := by rw [key_bit]; simp [hvr]
    have hk2 : ¬ 2 ^ n ≤ maskOf (keyB N v (order.drop (j + 1))) n := by have := maskOf_lt (keyB N v (order.drop (j + 1))) n; omega
    unfold bcode bagOf
    simp only
    rw [if_neg (by simp [hself]; omega)]
    rw [if_neg (by
      rintro ⟨hvf, hge⟩
      have : maskOf (keyB N v (order.drop (j + 1))) n < 2 ^ v := lt_of_bits2 fun i hi => by
        rw [key_bit]
        by_cases hm : i ∈ order.drop (j + 1)
        · have := hdown j v hj hvf i hm; omega
        · simp [hm]
      omega)]
    rcases par_cases n N v order j hlt with ⟨h1, h2⟩ | ⟨w, k, h1, h2, h3, h4, h5, _⟩
    · rw [if_neg (by rw [h1, h2]; simp)]
    · have hbw : (maskOf (keyB N v (order.drop (j + 1))) n).testBit w = true := by rw [key_bit]; simp [h5, h4, at_mem_drop h2 h3]
      have hne : maskOf (keyB N v (order.drop (j + 1))) n ≠ 0 := by intro e; rw [e] at hbw; simp at hbw
      rw [if_neg (by
        rw [h1]
        rintro (⟨e, _⟩ | ⟨_, e | e | e⟩)
        · exact hne e
        · omega
        · omega
        · rw [Int.toNat_natCast, hbw] at e; cases e)]
  have hbad : badAt n f bs 0 = 0 := badAt_none fun j b hb => hb0 j b hb
  have hpar : ∀ (j v : Nat), order[j]? = some v → ∀ b, bs[v]? = some b → b.par < 0 ∨ ∃ w k : Nat, b.par = w ∧ j < k ∧ order[k]? = some w := by
    intro j v hj b hb
    rw [hget j v hj] at hb; cases hb
    rcases par_cases n (iter (adj es) order j) v order j hlt with ⟨h1, _⟩ | ⟨w, k, h1, h2, h3, _⟩
    · exact .inl (by simp only [bagOf]; omega)
    · exact .inr ⟨w, k, h1, h2, h3⟩
  have hup : ¬ ∃ v : Nat, v < n ∧ 0 ≤ up bs n v := by
    rintro ⟨v, hv, h0⟩
    have key : ∀ k, 0 ≤ up bs k v → ∃ w j : Nat, up bs k v = w ∧ k ≤ j ∧ order[j]? = some w := by
      intro k
      induction k with
      | zero => intro _; obtain ⟨j, hj⟩ := hidx v hv; exact ⟨v, j, rfl, by omega, hj⟩
      | succ k ih =>
        intro h
        have hk : 0 ≤ up bs k v := by
          rcases int_lt_or_ge (up bs k v) 0 with g | g
          · have := up_neg g (k + 1) (by omega); omega
          · exact g
        obtain ⟨w, j, h1, h2, h3⟩ := ih hk
        have hbw := hget j w h3
        have hst := up_step h1 hbw
        rcases hpar j w h3 _ hbw with h4 | ⟨w', k', h4, h5, h6⟩
        · rw [hst] at h; omega
        · exact ⟨w', k', by rw [hst]; exact h4, by omega, h6⟩
    obtain ⟨w, j, _, h2, h3⟩ := key n h0
    have := lt_len h3; omega
  have hfit : ¬ ∃ b ∈ bs, ¬ fits1 bs b := by
    rintro ⟨b, hb, hnot⟩
    refine hnot ?_
    obtain ⟨v, hv, hvb⟩ := List.getElem_of_mem hb
    obtain ⟨j, hj, rfl⟩ := hinv v b (by rw [← hvb]; exact List.getElem?_eq_getElem hv)
    intro hp0 q hq i hi
    rcases par_cases n (iter (adj es) order j) v order j hlt with ⟨h1, _⟩ | ⟨w, k, h1, h2, h3, h4, h5, h6⟩
    · simp only [bagOf] at hp0; omega
    · have e : (bagOf n (iter (adj es) order j) v (order.drop (j + 1))).par = (w : Int) := h1
      rw [e, Int.toNat_natCast] at hq ⊢
      rw [hget k w h3] at hq; cases hq
      have hi2 : (maskOf (keyB (iter (adj es) order j) v (order.drop (j + 1))) n).testBit i = true := hi
      rw [key_bit] at hi2
      simp only [Bool.and_eq_true, decide_eq_true_eq] at hi2
      obtain ⟨hin, hNi, him⟩ := hi2
      rw [Nat.testBit_or, Nat.testBit_two_pow]
      by_cases hiw : i = w
      · subst hiw; simp
      · obtain ⟨ki, hki, hki2⟩ := mem_drop_at him
        have hkk : k < ki := by
          rcases Nat.lt_trichotomy ki k with g | g | g
          · rw [h6 ki i hki g hki2] at hNi; cases hNi
          · subst g; rw [h3] at hki2; cases hki2; exact absurd rfl hiw
          · exact g
        have hjn : iter (adj es) order (j + 1) w i = true := by
          rw [iter_succ hj]
          have hwm : w ∈ order.drop (j + 1) := at_mem_drop h2 h3
          have hwi : decide (w ≠ i) = true := by simp; exact fun e => hiw e.symm
          have e1 : keyB (iter (adj es) order j) v (order.drop (j + 1)) w = true := by simp only [keyB, h4, hwm, decide_true, Bool.and_self]
          have e2 : keyB (iter (adj es) order j) v (order.drop (j + 1)) i = true := by simp only [keyB, hNi, him, decide_true, Bool.and_self]
          unfold stepN
          rw [hwi, e1, e2]; simp
        have := iter_mono hjn k (by omega) (by have := lt_len h3; omega)
        show ((maskOf (keyB (iter (adj es) order k) w (order.drop (k + 1))) n).testBit i || _) = true
        rw [key_bit]
        simp [hin, this, at_mem_drop hkk hki2]
  have hcov : ¬ ∃ e ∈ es, ¬ covers bs e := by
    rintro ⟨e, he, hnot⟩
    refine hnot ?_
    have hen := hes e he
    cases hf : order.find? (fun w => e.testBit w) with
    | none =>
      rw [List.find?_eq_none] at hf
      refine .inl (Nat.eq_of_testBit_eq fun i => ?_)
      rw [Nat.zero_testBit]
      by_cases hi : i < n
      · have := hf i (order_all hnd hlt hlen hi)
        simpa using this
      · exact Nat.testBit_lt_two_pow (Nat.lt_of_lt_of_le hen (Nat.pow_le_pow_right (by omega) (by omega)))
    | some v =>
      obtain ⟨hv, j, hjl, hje, hbefore⟩ := List.find?_eq_some_iff_getElem.mp hf
      have hj : order[j]? = some v := by rw [← hje]; exact List.getElem?_eq_getElem hjl
      refine .inr ⟨_, List.mem_of_getElem? (hget j v hj), fun i hi => ?_⟩
      have hvn : v < n := hlt v (List.mem_of_getElem? hj)
      rw [setOf_var (v := v) rfl (by omega), Nat.testBit_or, Nat.testBit_two_pow]
      by_cases hiv : i = v
      · subst hiv; simp
      · have hin : i < n := by
          rcases Nat.lt_or_ge i n with g | g
          · exact g
          · rw [Nat.testBit_lt_two_pow (Nat.lt_of_lt_of_le hen (Nat.pow_le_pow_right (by omega) g))] at hi; cases hi
        obtain ⟨k, hk⟩ := hidx i hin
        have hjk : j < k := by
          rcases Nat.lt_trichotomy k j with g | g | g
          · have h1 := hbefore k g
            rw [(List.getElem?_eq_some_iff.mp hk).2] at h1
            simp [hi] at h1
          · subst g; rw [hj] at hk; cases hk; exact absurd rfl hiv
          · exact g
        have hadj : iter (adj es) order 0 v i = true := by
          have : adj es v i = true := by
            simp only [adj, Bool.and_eq_true, decide_eq_true_eq, List.any_eq_true]
            exact ⟨fun e => hiv e.symm, e, he, hv, hi⟩
          cases order <;> exact this
        have := iter_mono hadj j (by omega) (by omega)
        show ((maskOf (keyB (iter (adj es) order j) v (order.drop (j + 1))) n).testBit i || _) = true
        rw [key_bit]
        simp [hin, this, at_mem_drop hjk hk]
  unfold ccode
  rw [if_neg (by simpa using hbl), if_neg (by simpa using hbad), if_neg hup, if_neg hfit, if_neg hcov]
end Go.Proofs.Ytaieijjfabbfeaa

set_option linter.unusedSimpArgs false
set_option linter.unusedVariables false
set_option linter.unusedSectionVars false
namespace Go.Proofs.Ytaieijjfabbfeaa
open Go.Clo

theorem outs_key {n : Nat} (hn : n ≤ 32) : ∀ (order : List Nat) (out : List Bag) (N : Nb), KeyOK out → KeyOK (outs n out N order)
  | [], _, _, h => h
  | v :: rest, out, N, h => outs_key hn rest _ _ fun b hb => by
    rcases List.mem_or_eq_of_mem_set hb with hb | rfl
    · exact h b hb
    · exact maskOf32 hn _

set_option maxHeartbeats 4000000 in
theorem law4 (N free : Int) (A : Option Addr) (es : List Nat) (cap : Nat) (P : Option Addr) (l : List Int) (capP : Nat) (H : Heap) (nx : Nat) (hS : Sl H nx A (u32s es)) (hsm : Small es) (hP : Sl H nx P (i64s l)) (hP0 : Has H nx P) :
    Ans Try.prog 4 [gv N A es.length cap, .int .i64 free, .slice P l.length capP] H nx fun r _ _ => r = .bool true := by
  refine spec4 ?_
  unfold F4
  have hE1 : Ext H nx (hs H nx (some (.cells [.int .i64 N, .slice A es.length cap] 0))) (nx + 1) := (Ext.refl H nx).new _ (Nat.le_refl _) (by omega)
  simp (config := { maxSteps := 2000000 }) (disch := first | omega | assumption | exact shr_lt (by assumption) | exact ndiff32 (by assumption) | exact below_lt (by omega) | fail) only [List.getD_cons_zero, wBin_lss, wBin_gtr, wBin_neq, wIf_bool, wGuard_false, wFld_eq, wLen_slice, wNew_eq, dBox_agg, oneCells, wLd_none, wLd_2, ldP_cells, cellP_one, getH_same, forceV_eq, forceN_eq, Option.elim_some, List.getElem?_cons_zero, List.getElem?_cons_succ, Yld.val, if_true, Nat.zero_add, Nat.add_zero, and_true, true_and, or_false, wJoin_eq]
  by_cases hbig : 70 < es.length ∨ 40 < l.length
  case pos =>
    rcases hbig with h | h
    · have h1 : (es.length : Int) > 70 := by omega
      simp (config := { maxSteps := 2000000 }) (disch := first | omega | assumption | exact shr_lt (by assumption) | exact ndiff32 (by assumption) | exact below_lt (by omega) | fail) only [decide_true, if_true, h1]
      refine wCall_rule (awake7 _ _) ?_
      rintro _ _ _ ⟨rfl, rfl, rfl⟩
      simp (disch := first | omega | assumption | exact shr_lt (by assumption) | exact ndiff32 (by assumption) | exact below_lt (by omega) | fail) only []
    · have h2 : (l.length : Int) > 40 := by omega
      by_cases h1 : (es.length : Int) > 70
      · simp (config := { maxSteps := 2000000 }) (disch := first | omega | assumption | exact shr_lt (by assumption) | exact ndiff32 (by assumption) | exact below_lt (by omega) | fail) only [decide_true, if_true, h1]
        refine wCall_rule (awake7 _ _) ?_
        rintro _ _ _ ⟨rfl, rfl, rfl⟩
        simp (disch := first | omega | assumption | exact shr_lt (by assumption) | exact ndiff32 (by assumption) | exact below_lt (by omega) | fail) only []
      · simp (config := { maxSteps := 2000000 }) (disch := first | omega | assumption | exact shr_lt (by assumption) | exact ndiff32 (by assumption) | exact below_lt (by omega) | fail) only [decide_true, decide_false, if_true, if_false, Bool.false_eq_true, h1, h2]
        refine wCall_rule (awake7 _ _) ?_
        rintro _ _ _ ⟨rfl, rfl, rfl⟩
        simp (disch := first | omega | assumption | exact shr_lt (by assumption) | exact ndiff32 (by assumption) | exact below_lt (by omega) | fail) only []
  have h1 : ¬ (es.length : Int) > 70 := by omega
  have h2 : ¬ (l.length : Int) > 40 := by omega
  simp (config := { maxSteps := 2000000 }) (disch := first | omega | assumption | exact shr_lt (by assumption) | exact ndiff32 (by assumption) | exact below_lt (by omega) | fail) only [decide_false, if_false, Bool.false_eq_true, h1, h2, cellP_lit2]
  refine wCall_rule (bags13 N free A es cap P l capP _ _ (hS.ext hE1) hsm (hP.ext hE1) (hP0.ext hE1) (by omega)) ?_
  rintro r H2 nx2 ⟨hE2, hr⟩
  have hg2 := hE2.get nx (by omega)
  rw [getH_same] at hg2
  have hnx2 := hE2.le
  have hEE2 := hE1.trans hE2
  rcases hr with ⟨hf0, rfl⟩ | ⟨n, f, rfl, rfl, hfn, hn, hfc, hr⟩
  · -- an error of the graph or of the number of free variables
    simp only [refuse]
    simp (config := { maxSteps := 2000000 }) (disch := first | omega | assumption | exact shr_lt (by assumption) | exact ndiff32 (by assumption) | exact below_lt (by omega) | fail) only [wBin_eql, wGuard_true, wExt_eq, wLen_slice, ldP_cells, Option.elim_some, List.getElem?_cons_zero, List.getElem?_cons_succ, decide_true, u32_eq_zero, hg2, cellP_lit2]
    refine wCall_rule (of10 N A es.length cap _ _) ?_
    rintro _ H3 nx3 ⟨rfl, hE3⟩
    have hEE3 := hEE2.trans hE3
    refine wCall_rule (check9 N A es cap _ _ (hS.ext hEE3) hsm) ?_
    rintro _ H4 nx4 ⟨rfl, hE4⟩
    have hg4 := ((hE3.trans hE4).get nx (by omega)).trans hg2
    by_cases hg0 : gcode N es = 0
    · have d1 : decide (gcode N es ≠ 0) = false := by simp [hg0]
      have hff : free < 0 ∨ N < free := by
        refine Classical.byContradiction fun h => hf0 ?_
        unfold fcode; rw [if_neg (by simpa using hg0), if_neg h]
      have hf3 : fcode N free es = 3 := by unfold fcode; rw [if_neg (by simpa using hg0), if_pos hff]
      have d3 : decide ((3 : Int) ≠ 0) = true := by decide
      have d4 : decide ((3 : Int) = 3) = true := by decide
      have d5 : decide ((0 : Int) = 0) = true := by decide
      rw [hf3]
      rcases hff with h | h
      · simp (config := { maxSteps := 2000000 }) (disch := first | omega | assumption | exact shr_lt (by assumption) | exact ndiff32 (by assumption) | exact below_lt (by omega) | fail) only [wBin_eql, wBin_neq, wIf_bool, wGuard_true, decide_true, if_true, if_false, Bool.false_eq_true, d1, h, d3]
        refine wCall_rule (awake7 _ _) ?_
        rintro _ _ _ ⟨rfl, rfl, rfl⟩
        simp (config := { maxSteps := 2000000 }) (disch := first | omega | assumption | exact shr_lt (by assumption) | exact ndiff32 (by assumption) | exact below_lt (by omega) | fail) only [wGuard_true, if_true]
      · have h3 : ¬ free < 0 := by
          intro h0
          have : N < 0 := by omega
          rw [gcode_range (.inl this)] at hg0; omega
        simp (config := { maxSteps := 2000000 }) (disch := first | omega | assumption | exact shr_lt (by assumption) | exact ndiff32 (by assumption) | exact below_lt (by omega) | fail) only [wBin_gtr, wBin_eql, wBin_neq, wIf_bool, wGuard_true, ldP_cells, cellP_one, Option.elim_some, List.getElem?_cons_zero, decide_true, decide_false, if_true, if_false, Bool.false_eq_true, d1, h3, hg4, h, d3]
        refine wCall_rule (awake7 _ _) ?_
        rintro _ _ _ ⟨rfl, rfl, rfl⟩
        simp (config := { maxSteps := 2000000 }) (disch := first | omega | assumption | exact shr_lt (by assumption) | exact ndiff32 (by assumption) | exact below_lt (by omega) | fail) only [wGuard_true, if_true]
    · have d1 : decide (gcode N es ≠ 0) = true := by simp [hg0]
      have hfe : fcode N free es = gcode N es := by unfold fcode; rw [if_pos hg0]
      rw [hfe]
      have d4 : decide (gcode N es = gcode N es) = true := by simp
      have d5 : decide ((0 : Int) = 0) = true := by decide
      simp (config := { maxSteps := 2000000 }) (disch := first | omega | assumption | exact shr_lt (by assumption) | exact ndiff32 (by assumption) | exact below_lt (by omega) | fail) only [wBin_eql, wBin_neq, wIf_bool, wGuard_true, decide_true, if_true, d1]
      refine wCall_rule (awake7 _ _) ?_
      rintro _ _ _ ⟨rfl, rfl, rfl⟩
      simp (config := { maxSteps := 2000000 }) (disch := first | omega | assumption | exact shr_lt (by assumption) | exact ndiff32 (by assumption) | exact below_lt (by omega) | fail) only [wGuard_true, if_true]
  obtain ⟨n', f', e1, e2, _, _, hle, hes⟩ := fcode_inv hfc
  have : n' = n := by omega
  subst this
  have : f' = f := by omega
  subst this
  have hgc : gcode n' es = 0 := by
    unfold fcode at hfc
    split at hfc
    · rename_i h; exact absurd hfc h
    · rename_i h; exact Decidable.of_not_not h
  have d1 : decide (gcode n' es ≠ 0) = false := by simp [hgc]
  have h3 : ¬ (f' : Int) < 0 := by omega
  have h4 : ¬ (f' : Int) > (n' : Int) := by omega
  have d3 : decide ((1 : Int) ≠ 0) = true := by decide
  have d4 : decide ((1 : Int) = 1) = true := by decide
  have d5 : decide ((0 : Int) = 0) = true := by decide
  rcases hr with ⟨hnp, rfl⟩ | ⟨hp, order, hord, hnd, hlt, hlen, R, rfl, hR⟩
  · simp only [refuse]
    simp (config := { maxSteps := 2000000 }) (disch := first | omega | assumption | exact shr_lt (by assumption) | exact ndiff32 (by assumption) | exact below_lt (by omega) | fail) only [wBin_eql, wGuard_true, wExt_eq, wLen_slice, ldP_cells, Option.elim_some, List.getElem?_cons_zero, List.getElem?_cons_succ, decide_true, if_true, u32_eq_zero, hg2, cellP_lit2]
    refine wCall_rule (of10 n' A es.length cap _ _) ?_
    rintro _ H3 nx3 ⟨rfl, hE3⟩
    have hEE3 := hEE2.trans hE3
    refine wCall_rule (check9 n' A es cap _ _ (hS.ext hEE3) hsm) ?_
    rintro _ H4 nx4 ⟨rfl, hE4⟩
    have hEE4 := hEE3.trans hE4
    have hg4 := ((hE3.trans hE4).get nx (by omega)).trans hg2
    simp (config := { maxSteps := 2000000 }) (disch := first | omega | assumption | exact shr_lt (by assumption) | exact ndiff32 (by assumption) | exact below_lt (by omega) | fail) only [wBin_gtr, wBin_eql, wBin_neq, wIf_bool, wGuard_true, ldP_cells, cellP_one, Option.elim_some, List.getElem?_cons_zero, decide_false, if_false, Bool.false_eq_true, d1, h3, h4, hg4]
    refine wCall_rule (perm14 hn hfn P l capP _ _ (hP.ext hEE4) (by omega)) ?_
    rintro _ H5 nx5 ⟨⟨c, rfl, hc⟩, hE5⟩
    have : c = false := by
      cases c with
      | false => rfl
      | true => exact absurd (hc.1 rfl) hnp
    subst this
    simp (config := { maxSteps := 2000000 }) (disch := first | omega | assumption | exact shr_lt (by assumption) | exact ndiff32 (by assumption) | exact below_lt (by omega) | fail) only [wIf_bool, wUn_not, if_true, Bool.not_false, d3]
    refine wCall_rule (awake7 _ _) ?_
    rintro _ _ _ ⟨rfl, rfl, rfl⟩
    simp (config := { maxSteps := 2000000 }) (disch := first | omega | assumption | exact shr_lt (by assumption) | exact ndiff32 (by assumption) | exact below_lt (by omega) | fail) only [wGuard_true, if_true]
  · simp (config := { maxSteps := 2000000 }) (disch := first | omega | assumption | exact shr_lt (by assumption) | exact ndiff32 (by assumption) | exact below_lt (by omega) | fail) only [wBin_eql, wGuard_true, wExt_eq, wLen_slice, ldP_cells, Option.elim_some, List.getElem?_cons_zero, List.getElem?_cons_succ, decide_true, if_true, u32_eq_zero, hg2, cellP_lit2]
    refine wCall_rule (of10 n' A es.length cap _ _) ?_
    rintro _ H3 nx3 ⟨rfl, hE3⟩
    have hEE3 := hEE2.trans hE3
    refine wCall_rule (check9 n' A es cap _ _ (hS.ext hEE3) hsm) ?_
    rintro _ H4 nx4 ⟨rfl, hE4⟩
    have hEE4 := hEE3.trans hE4
    have hg4 := ((hE3.trans hE4).get nx (by omega)).trans hg2
    have hnx4 := (hE3.trans hE4).le
    simp (config := { maxSteps := 2000000 }) (disch := first | omega | assumption | exact shr_lt (by assumption) | exact ndiff32 (by assumption) | exact below_lt (by omega) | fail) only [wBin_gtr, wBin_eql, wBin_neq, wIf_bool, wGuard_true, ldP_cells, cellP_one, Option.elim_some, List.getElem?_cons_zero, decide_false, if_false, Bool.false_eq_true, d1, h3, h4, hg4]
    refine wCall_rule (perm14 hn hfn P l capP _ _ (hP.ext hEE4) (by omega)) ?_
    rintro _ H5 nx5 ⟨⟨c, rfl, hc⟩, hE5⟩
    have : c = true := hc.2 hp
    subst this
    have hE25 := (hE3.trans hE4).trans hE5
    have hEE5 := hEE4.trans hE5
    have hg5 := (hE25.get nx (by omega)).trans hg2
    have hnx5 := hE25.le
    simp (config := { maxSteps := 2000000 }) (disch := first | omega | assumption | exact shr_lt (by assumption) | exact ndiff32 (by assumption) | exact below_lt (by omega) | fail) only [wIf_bool, wUn_not, if_false, Bool.false_eq_true, Bool.not_true]
    refine wCall_rule (awake7 _ _) ?_
    rintro _ _ _ ⟨rfl, rfl, rfl⟩
    simp (config := { maxSteps := 2000000 }) (disch := first | omega | assumption | exact shr_lt (by assumption) | exact ndiff32 (by assumption) | exact below_lt (by omega) | fail) only [wGuard_true, if_true]
    generalize hbs : outs n' (List.replicate n' zeroBag) (adj es) order = bs at hR
    have hbl : bs.length = n' := by rw [← hbs, outs_len]; simp
    have hkey : KeyOK bs := by rw [← hbs]; exact outs_key hn _ _ _ fun b hb => by rw [List.eq_of_mem_replicate hb]; decide
    have hgood := good_bags hn hes hp hord hnd hlt hlen
    rw [hbs] at hgood
    have hR5 := hR.ext (hE25.trans (Ext.self (by omega) : Ext H5 nx5 H5 (nx5 + 23)))
    have h12 := of12 R bs n' H5 (nx5 + 23) hR5 (by omega)
    rw [hbl] at h12
    refine wCall_rule h12 ?_
    rintro _ H6 nx6 ⟨hA6, hE6⟩
    have hE56 : Ext H5 nx5 H6 nx6 := (Ext.self (by omega) : Ext H5 nx5 H5 (nx5 + 23)).trans hE6
    have hEE6 := hEE5.trans hE56
    have hg6 := (hE56.get nx (by omega)).trans hg5
    have hnx6 := hE56.le
    obtain ⟨R', rfl, hR'⟩ := hA6.sl
    simp (config := { maxSteps := 2000000 }) (disch := first | omega | assumption | exact shr_lt (by assumption) | exact ndiff32 (by assumption) | exact below_lt (by omega) | fail) only [ldP_cells, true_and, hg6, cellP_lit2]
    refine wCall_rule (of10 n' A es.length cap _ _) ?_
    rintro _ H7 nx7 ⟨rfl, hE7⟩
    have hEE7 := hEE6.trans hE7
    refine wCall_rule (bags16 hn (by omega) A es cap P l capP order _ _ (hS.ext hEE7) hsm hle (hP.ext hEE7) (hP0.ext hEE7) (by omega) hord hnd hlt hlen) ?_
    rintro _ H8 nx8 ⟨⟨R2, capR, rfl, hR2⟩, hE8⟩
    rw [hbs] at hR2
    have h15 := equal15 R' R2 bs n' capR H8 nx8 (hR'.ext (hE7.trans hE8)) hR2 (by omega)
    rw [hbl] at h15
    refine wCall_rule h15 ?_
    rintro _ H9 nx9 ⟨rfl, hE9⟩
    have hE69 := (hE7.trans hE8).trans hE9
    have hg9 := (hE69.get nx (by omega)).trans hg6
    simp (config := { maxSteps := 2000000 }) (disch := first | omega | assumption | exact shr_lt (by assumption) | exact ndiff32 (by assumption) | exact below_lt (by omega) | fail) only [wGuard_true, ldP_cells, if_true, true_and, hg9, cellP_lit2]
    have h8 := check8 n' f' A es cap R bs n' H9 nx9 (hS.ext (hEE6.trans hE69)) hsm (hR5.ext (hE6.trans hE69)) hkey
    rw [hbl] at h8
    refine wCall_rule h8 ?_
    rintro _ H10 nx10 ⟨rfl, hE10⟩
    have hchk : chk n' f' es bs = 0 := by rw [chk, hfc]; simpa using hgood
    rw [hchk]
    simp (config := { maxSteps := 2000000 }) (disch := first | omega | assumption | exact shr_lt (by assumption) | exact ndiff32 (by assumption) | exact below_lt (by omega) | fail) only [wBin_eql, ldP_cells, decide_true, true_and, hg5, cellP_lit2]
end Go.Proofs.Ytaieijjfabbfeaa

set_option linter.unusedSimpArgs false
set_option linter.unusedVariables false
set_option linter.unusedSectionVars false
namespace Go.Proofs.Ytaieijjfabbfeaa
open Go.Clo
set_option maxRecDepth 100000
/-! 21: ordinal/ordinallaw30.perm -/
def d21 : D :=
  (.seq
    (.ops [
        (none, [⟨none, some 6, .p (.mv (.c (.slice none 0 0)))⟩])] (.one .nil))
    (.seq
      (.ops [
          (none, [⟨none, some 7, .p (.mv (.c (.slice none 0 0)))⟩])] (.one .nil))
      (.seq
        (.seq
          (.ops [
              (none, [⟨none, some 13, .p (.mv (.s 0))⟩,
              ⟨none, some 8, .p (.mv (.s 13))⟩])] (.one .nil))
          (.block 0
            (.loop [7, 8] [14, 15, 16, 17, 18, 19, 20, 21, 22]
              (.seq
                (.seq
                  (.ops [
                      (none, [⟨none, some 14, .p (.mv (.s 8))⟩,
                      ⟨none, some 15, .p (.mv (.s 1))⟩,
                      ⟨none, some 16, .p (.bin .lss (.s 14) (.s 15))⟩])] (.one .nil))
                  (.cond (.s 16)
                    .skip
                    (.exit 0)))
                (.seq
                  (.block 1
                    (.ops [
                        (none, [⟨none, some 19, .p (.mv (.s 7))⟩,
                        ⟨none, some 20, .p (.mv (.s 8))⟩,
                        ⟨none, some 21, .a (.bsl 1 1 [.int .i64 0] [(0, .s 20)])⟩,
                        ⟨none, some 22, .e (.app (.s 19) (.s 21) 1 8)⟩,
                        ⟨none, some 7, .p (.mv (.s 22))⟩])] (.one .nil)))
                  (.ops [
                      (none, [⟨none, some 17, .p (.mv (.s 8))⟩,
                      ⟨none, some 18, .p (.bin .add (.s 17) (.c (.int .i64 1)))⟩,
                      ⟨none, some 8, .p (.mv (.s 18))⟩])] (.one .nil)))))))
        (.seq
          (.seq
            (.ops [
                (none, [⟨none, some 23, .p (.mv (.s 2))⟩,
                ⟨none, some 24, .r (.len (.s 23) 0)⟩,
                ⟨none, some 25, .p (.mv (.c (.int .i64 0)))⟩])] (.one .nil))
            (.block 2
              (.loop [25] [9, 10, 11, 12, 26, 27, 28, 29, 30, 31, 32, 33, 34, 35, 36, 37, 38, 39, 40, 41, 42, 43, 44, 45, 46, 47, 48, 49, 50, 51, 52, 53, 54, 55, 56]
                (.seq
                  (.ops [
                      (none, [⟨none, some 26, .p (.bin .lss (.s 25) (.s 24))⟩])] (.one .nil))
                  (.seq
                    (.cond (.s 26)
                      .skip
                      (.exit 2))
                    (.join [] [9, 10, 11, 12, 27, 28, 29, 30, 31, 32, 33, 34, 35, 36, 37, 38, 39, 40, 41, 42, 43, 44, 45, 46, 47, 48, 49, 50, 51, 52, 53, 54, 55]
                      (.block 3
                        (.seq
                          (.ops [
                              (none, [⟨none, some 27, .p (.mv (.s 25))⟩,
                              ⟨none, some 28, .p (.idx (.s 23) (.s 25) none 1)⟩,
                              ⟨none, some 29, .r (.ld (.s 28) none)⟩,
                              ⟨none, some 9, .p (.mv (.s 27))⟩,
                              ⟨none, some 10, .p (.mv (.s 29))⟩])] (.one .nil))
                          (.seq
                            (.ops [
                                (none, [⟨none, some 30, .p (.mv (.s 7))⟩,
                                ⟨none, some 31, .r (.len (.s 30) 0)⟩,
                                ⟨none, some 32, .p (.bin .gtr (.s 31) (.c (.int .i64 0)))⟩])] (.one .nil))
                            (.cond (.s 32)
                              (.seq
                                (.draw [0, 0, 2, 7, 0, 16, 0, 64, 240, 15, 1023] [
                                    (none, [⟨none, some 33, .p (.mv (.s 9))⟩,
                                    ⟨none, some 34, .p (.mv (.s 7))⟩,
                                    ⟨none, some 35, .r (.len (.s 34) 0)⟩,
                                    ⟨none, some 36, .p (.bin .rem (.s 33) (.s 35))⟩,
                                    ⟨none, some 37, .p (.mv (.s 10))⟩,
                                    ⟨none, some 38, .r (.convI .i64 (.s 37))⟩,
                                    ⟨none, some 39, .p (.mv (.s 7))⟩,
                                    ⟨none, some 40, .r (.len (.s 39) 0)⟩,
                                    ⟨none, some 41, .p (.bin .rem (.s 38) (.s 40))⟩,
                                    ⟨none, some 11, .p (.mv (.s 36))⟩,
                                    ⟨none, some 12, .p (.mv (.s 41))⟩])] (.one .nil))
                                (.draw [0, 0, 0, 0, 0, 0, 48, 112, 0, 0, 768, 1792, 4083, 8179, 16383, 32767] [
                                    (none, [⟨none, some 42, .p (.mv (.s 7))⟩,
                                    ⟨none, some 43, .p (.mv (.s 11))⟩,
                                    ⟨none, some 44, .p (.mv (.s 7))⟩,
                                    ⟨none, some 45, .p (.mv (.s 12))⟩,
                                    ⟨none, some 46, .p (.mv (.s 7))⟩,
                                    ⟨none, some 47, .p (.mv (.s 12))⟩,
                                    ⟨none, some 48, .p (.idx (.s 46) (.s 47) none 1)⟩,
                                    ⟨none, some 49, .r (.ld (.s 48) none)⟩,
                                    ⟨none, some 50, .p (.mv (.s 7))⟩,
                                    ⟨none, some 51, .p (.mv (.s 11))⟩,
                                    ⟨none, some 52, .p (.idx (.s 50) (.s 51) none 1)⟩,
                                    ⟨none, some 53, .r (.ld (.s 52) none)⟩,
                                    ⟨none, some 54, .p (.idx (.s 42) (.s 43) none 1)⟩,
                                    ⟨none, none, .e (.st (.s 54) (.s 49) 1)⟩,
                                    ⟨none, some 55, .p (.idx (.s 44) (.s 45) none 1)⟩,
                                    ⟨none, none, .e (.st (.s 55) (.s 53) 1)⟩])] (.one .nil)))
                              .skip))))
                      (.ops [
                          (none, [⟨none, some 56, .p (.bin .add (.s 25) (.c (.int .i64 1)))⟩,
                          ⟨none, some 25, .p (.mv (.s 56))⟩])] (.one .nil))))))))
          (.seq
            (.ops [
                (none, [⟨none, some 57, .p (.mv (.s 7))⟩,
                ⟨none, some 6, .p (.mv (.s 57))⟩])] (.one .nil))
            .ret)))))
theorem cfn21 : cfn Try.prog 21 = some ⟨58, 6, d21.erase, [(.s 6, none)]⟩ := by kernel_rfl
theorem ok21 : d21.ok 58 6 = true := by kernel_rfl
noncomputable def F21 (a0 a1 a2 : Value) (H : Heap) (nx : Nat) (k : EP) : Prop :=
  wLoop (fun tih_1 tL_2 H1 nx1 =>
    wBin .lss (tL_2.getD 1 undef) a1 fun t16_3 =>
    wIf t16_3 (
      dBsl 1 1 [.int .i64 0] [(0, (tL_2.getD 1 undef))] fun tc_4 => wNew (.cells tc_4 0) (.slice 1 1) H1 nx1 fun t21_5 H2 nx2 =>
      wApp (tL_2.getD 0 undef) t21_5 1 8 H2 nx2 fun t22_6 H3 nx3 =>
      wBin .add (tL_2.getD 1 undef) (.int .i64 1) fun t18_7 =>
      tih_1 [t22_6, t18_7] H3 nx3) (
      wLen a2 0 H1 fun t24_8 =>
      wLoop (fun tih_9 tL_10 H4 nx4 =>
        wBin .lss (tL_10.getD 0 undef) t24_8 fun t26_11 =>
        wIf t26_11 (
          wJoin (fun tj_12 =>
            wIdx a2 (tL_10.getD 0 undef) none 1 fun t28_14 =>
            wLd t28_14 none H4 fun t29_15 =>
            wLen (tL_2.getD 0 undef) 0 H4 fun t31_16 =>
            wBin .gtr t31_16 (.int .i64 0) fun t32_17 =>
            wIf t32_17 (
              forceN (nx4 + 11) fun nx6 =>
              wLen (tL_2.getD 0 undef) 0 H4 fun t35_18 =>
              wBin .rem (tL_10.getD 0 undef) t35_18 fun t36_19 =>
              wConv .i64 t29_15 fun t38_20 =>
              wLen (tL_2.getD 0 undef) 0 H4 fun t40_21 =>
              wBin .rem t38_20 t40_21 fun t41_22 =>
              (((((wLen (tL_2.getD 0 undef) 0 H4 fun tq_25 => tq_25 = t40_21) ∧ True) ∧ (((wConv .i64 t29_15 fun tq_24 => tq_24 = t38_20) ∧ True) ∧ (((wLen (tL_2.getD 0 undef) 0 H4 fun tq_23 => tq_23 = t35_18) ∧ True) ∧ True)))) ∧ (
                forceN (nx6 + 16) fun nx7 =>
                wIdx (tL_2.getD 0 undef) t41_22 none 1 fun t48_26 =>
                wLd t48_26 none H4 fun t49_27 =>
                wIdx (tL_2.getD 0 undef) t36_19 none 1 fun t52_28 =>
                wLd t52_28 none H4 fun t53_29 =>
                wIdx (tL_2.getD 0 undef) t36_19 none 1 fun t54_30 =>
                wSt t54_30 t49_27 1 H4 fun H8 =>
                wIdx (tL_2.getD 0 undef) t41_22 none 1 fun t55_31 =>
                wSt t55_31 t53_29 1 H8 fun H9 =>
                (((((True) ∧ ((True) ∧ ((wLd t52_28 none H4 fun tq_33 => tq_33 = t53_29) ∧ True))) ∧ (((True) ∧ ((True) ∧ ((wLd t48_26 none H4 fun tq_32 => tq_32 = t49_27) ∧ True))) ∧ True))) ∧ (
                  tj_12 [] H9 nx7)) ∨ False)) ∨ False) (
              tj_12 [] H4 nx4)) (fun tL_13 H5 nx5 =>
            wBin .add (tL_10.getD 0 undef) (.int .i64 1) fun t56_34 =>
            tih_9 [t56_34] H5 nx5)) (
          forceV (tL_2.getD 0 undef) fun tv_35 => k tv_35 H4 nx4)) [(.int .i64 0)] H1 nx1)) [(.slice none 0 0), a0] H nx
theorem eq21 (a0 a1 a2 : Value) (H : Heap) (nx : Nat) (k : EP) : wBody Try.prog 58 6 d21 [(.s 6, none)] [a0, a1, a2] H nx k = F21 a0 a1 a2 H nx k := by kernel_rfl
theorem spec21 {a0 a1 a2 : Value} {H : Heap} {nx : Nat} {k : EP} (h : F21 a0 a1 a2 H nx k) : Ans Try.prog 21 [a0, a1, a2] H nx k :=
  spec_of_body mixed namesOK cfn21 ok21 (by simp) ((eq21 a0 a1 a2 H nx k).symm ▸ h)

/-! 53: slices.Clone[[]uint32,uint32] -/
def d53 : D :=
  (.seq
    (.ops [
        (none, [⟨none, some 2, .p (.mv (.c (.slice none 0 0)))⟩])] (.one .nil))
    (.seq
      (.seq
        (.ops [
            (none, [⟨none, some 3, .p (.mv (.s 0))⟩,
            ⟨none, some 4, .p (.vf (.eqn false (.slice 41)) [.s 3, .c (.slice none 0 0)])⟩])] (.one .nil))
        (.cond (.s 4)
          (.seq
            (.ops [
                (none, [⟨none, some 2, .p (.mv (.c (.slice none 0 0)))⟩])] (.one .nil))
            .ret)
          .skip))
      (.seq
        (.ops [
            (none, [⟨none, some 5, .a (.bsl 0 1 [.int .u32 0] [])⟩,
            ⟨none, some 6, .p (.mv (.s 0))⟩,
            ⟨none, some 7, .e (.app (.s 5) (.s 6) 1 4)⟩,
            ⟨none, some 2, .p (.mv (.s 7))⟩])] (.one .nil))
        .ret)))
theorem cfn53 : cfn Try.prog 53 = some ⟨8, 4, d53.erase, [(.s 2, none)]⟩ := by kernel_rfl
theorem ok53 : d53.ok 8 4 = true := by kernel_rfl
noncomputable def F53 (a0 : Value) (H : Heap) (nx : Nat) (k : EP) : Prop :=
  wVf (.eqn false (.slice 41)) [a0, (.slice none 0 0)] fun t4_1 =>
  wIf t4_1 (
    forceV (.slice none 0 0) fun tv_2 => k tv_2 H nx) (
    dBsl 0 1 [.int .u32 0] [] fun tc_3 => wNew (.cells tc_3 0) (.slice 0 0) H nx fun t5_4 H1 nx1 =>
    wApp t5_4 a0 1 4 H1 nx1 fun t7_5 H2 nx2 =>
    forceV t7_5 fun tv_6 => k tv_6 H2 nx2)
theorem eq53 (a0 : Value) (H : Heap) (nx : Nat) (k : EP) : wBody Try.prog 8 4 d53 [(.s 2, none)] [a0] H nx k = F53 a0 H nx k := by kernel_rfl
theorem spec53 {a0 : Value} {H : Heap} {nx : Nat} {k : EP} (h : F53 a0 H nx k) : Ans Try.prog 53 [a0] H nx k :=
  spec_of_body mixed namesOK cfn53 ok53 (by simp) ((eq53 a0 H nx k).symm ▸ h)

/-! 54: ordinal/hypergraph.absorb -/
def d54 : D :=
  (.seq
    (.ops [
        (none, [⟨none, some 4, .a (.alloc [.int .i64 0, .int .i64 0, .int .i64 0])⟩,
        ⟨none, some 5, .p (.mv (.c (.bool false)))⟩])] (.one .nil))
    (.seq
      (.seq
        (.ops [
            (none, [⟨none, some 8, .p (.mv (.s 0))⟩,
            ⟨none, some 9, .r (.len (.s 8) 0)⟩,
            ⟨none, some 10, .p (.mv (.c (.int .i64 0)))⟩])] (.one .nil))
        (.block 0
          (.loop [10] [5, 6, 7, 11, 12, 13, 14, 15, 16, 17, 18, 19, 20, 21, 22, 23, 24, 25, 26, 27, 28, 29, 30, 31, 32, 33, 34, 35, 36, 37, 38, 39, 40, 41, 42, 43, 44, 45, 46, 47, 48, 49, 50, 51]
            (.seq
              (.ops [
                  (none, [⟨none, some 11, .p (.bin .lss (.s 10) (.s 9))⟩])] (.one .nil))
              (.seq
                (.cond (.s 11)
                  .skip
                  (.exit 0))
                (.seq
                  (.block 1
                    (.seq
                      (.ops [
                          (none, [⟨none, some 12, .p (.mv (.s 10))⟩,
                          ⟨none, some 6, .p (.mv (.s 12))⟩])] (.one .nil))
                      (.seq
                        (.ops [
                            (none, [⟨none, some 13, .p (.mv (.s 0))⟩,
                            ⟨none, some 14, .r (.len (.s 13) 0)⟩,
                            ⟨none, some 15, .p (.mv (.c (.int .i64 0)))⟩])] (.one .nil))
                        (.block 2
                          (.loop [15] [5, 7, 16, 17, 18, 19, 20, 21, 22, 23, 24, 25, 26, 27, 28, 29, 30, 31, 32, 33, 34, 35, 36, 37, 38, 39, 40, 41, 42, 43, 44, 45, 46, 47, 48, 49, 50]
                            (.seq
                              (.ops [
                                  (none, [⟨none, some 16, .p (.bin .lss (.s 15) (.s 14))⟩])] (.one .nil))
                              (.seq
                                (.cond (.s 16)
                                  .skip
                                  (.exit 2))
                                (.seq
                                  (.block 3
                                    (.seq
                                      (.ops [
                                          (none, [⟨none, some 17, .p (.mv (.s 15))⟩,
                                          ⟨none, some 7, .p (.mv (.s 17))⟩])] (.one .nil))
                                      (.join [46] [18, 19, 20, 21, 22, 23, 24, 25, 26, 27, 28, 29, 30, 31, 32, 33, 34, 35, 36, 37, 38, 39, 40, 41, 42, 43, 44, 45]
                                        (.draw [0, 0, 3, 7, 15, 15, 63, 127, 255, 511, 1023, 2047, 2047, 8191, 16383, 32767, 65535, 131071, 262143, 262143, 1048575, 2097151, 262143, 262143, 12845055, 29622271, 67108863, 134217727, 268435455] [
                                            (none, [⟨none, some 18, .p (.mv (.s 6))⟩,
                                            ⟨none, some 19, .p (.mv (.s 7))⟩,
                                            ⟨none, some 20, .p (.bin .neq (.s 18) (.s 19))⟩,
                                            ⟨none, some 21, .p (.mv (.s 20))⟩]),
                                            (some (21, true), [⟨none, some 22, .p (.mv (.s 1))⟩,
                                            ⟨none, some 23, .p (.mv (.s 6))⟩,
                                            ⟨none, some 24, .p (.idx (.s 22) (.s 23) none 1)⟩,
                                            ⟨none, some 25, .r (.ld (.s 24) none)⟩,
                                            ⟨none, some 26, .p (.un .not (.s 25))⟩]),
                                            (none, [⟨none, some 27, .p (.pick (.s 21) (.s 26) (.c (.bool false)))⟩,
                                            ⟨none, some 28, .p (.mv (.s 27))⟩]),
                                            (some (28, true), [⟨none, some 29, .p (.mv (.s 1))⟩,
                                            ⟨none, some 30, .p (.mv (.s 7))⟩,
                                            ⟨none, some 31, .p (.idx (.s 29) (.s 30) none 1)⟩,
                                            ⟨none, some 32, .r (.ld (.s 31) none)⟩,
                                            ⟨none, some 33, .p (.un .not (.s 32))⟩]),
                                            (none, [⟨none, some 34, .p (.pick (.s 28) (.s 33) (.c (.bool false)))⟩,
                                            ⟨none, some 35, .p (.mv (.s 34))⟩]),
                                            (some (35, true), [⟨none, some 36, .p (.mv (.s 0))⟩,
                                            ⟨none, some 37, .p (.mv (.s 6))⟩,
                                            ⟨none, some 38, .p (.idx (.s 36) (.s 37) none 1)⟩,
                                            ⟨none, some 39, .r (.ld (.s 38) none)⟩,
                                            ⟨none, some 40, .p (.mv (.s 0))⟩,
                                            ⟨none, some 41, .p (.mv (.s 7))⟩,
                                            ⟨none, some 42, .p (.idx (.s 40) (.s 41) none 1)⟩,
                                            ⟨none, some 43, .r (.ld (.s 42) none)⟩,
                                            ⟨none, some 44, .p (.bin .andNot (.s 39) (.s 43))⟩,
                                            ⟨none, some 45, .p (.bin .eql (.s 44) (.c (.int .u32 0)))⟩]),
                                            (none, [⟨none, some 46, .p (.pick (.s 35) (.s 45) (.c (.bool false)))⟩])] (.one (.tst (.one (.tst (.one (.tst (.one .nil) (.one .nil))) (.one (.one (.one .nil))))) (.one (.one (.one (.one (.one .nil))))))))
                                        (.cond (.s 46)
                                          (.seq
                                            (.ops [
                                                (none, [⟨none, some 47, .p (.mv (.s 6))⟩,
                                                ⟨none, some 48, .p (.mv (.s 7))⟩,
                                                ⟨none, some 49, .p (.build [.int .i64 0, .int .i64 0, .int .i64 0] [(0, 1), (1, 1), (2, 1)] [(0, .s 47), (1, .s 48), (2, .c (.int .i64 (-1)))])⟩,
                                                ⟨none, none, .e (.st (.s 4) (.s 49) 3)⟩,
                                                ⟨none, some 5, .p (.mv (.c (.bool true)))⟩])] (.one .nil))
                                            .ret)
                                          .skip))))
                                  (.ops [
                                      (none, [⟨none, some 50, .p (.bin .add (.s 15) (.c (.int .i64 1)))⟩,
                                      ⟨none, some 15, .p (.mv (.s 50))⟩])] (.one .nil))))))))))
                  (.ops [
                      (none, [⟨none, some 51, .p (.bin .add (.s 10) (.c (.int .i64 1)))⟩,
                      ⟨none, some 10, .p (.mv (.s 51))⟩])] (.one .nil))))))))
      (.seq
        (.ops [
            (none, [⟨none, some 52, .p (.build [.int .i64 0, .int .i64 0, .int .i64 0] [(0, 1), (1, 1), (2, 1)] [])⟩,
            ⟨none, none, .e (.st (.s 4) (.s 52) 3)⟩,
            ⟨none, some 5, .p (.mv (.c (.bool false)))⟩])] (.one .nil))
        .ret)))
theorem cfn54 : cfn Try.prog 54 = some ⟨53, 6, d54.erase, [(.s 4, some (some 3)), (.s 5, none)]⟩ := by kernel_rfl
theorem ok54 : d54.ok 53 6 = true := by kernel_rfl
noncomputable def F54 (a0 a1 : Value) (H : Heap) (nx : Nat) (k : EP) : Prop :=
  wNew (.cells [.int .i64 0, .int .i64 0, .int .i64 0] 0) .ptr H nx fun t4_1 H1 nx1 =>
  wLen a0 0 H1 fun t9_2 =>
  wLoop (fun tih_3 tL_4 H2 nx2 =>
    wBin .lss (tL_4.getD 0 undef) t9_2 fun t11_5 =>
    wIf t11_5 (
      wLen a0 0 H2 fun t14_6 =>
      wLoop (fun tih_7 tL_8 H3 nx3 =>
        wBin .lss (tL_8.getD 0 undef) t14_6 fun t16_9 =>
        wIf t16_9 (
          wJoin (fun tj_10 =>
            forceN (nx3 + 29) fun nx5 =>
            wBin .neq (tL_4.getD 0 undef) (tL_8.getD 0 undef) fun t20_12 =>
            wGuard true t20_12 (
              wIdx a1 (tL_4.getD 0 undef) none 1 fun t24_13 =>
              wLd t24_13 none H3 fun t25_14 =>
              wUn .not t25_14 fun t26_15 =>
              wGuard true t26_15 (
                wIdx a1 (tL_8.getD 0 undef) none 1 fun t31_16 =>
                wLd t31_16 none H3 fun t32_17 =>
                wUn .not t32_17 fun t33_18 =>
                wGuard true t33_18 (
                  wIdx a0 (tL_4.getD 0 undef) none 1 fun t38_19 =>
                  wLd t38_19 none H3 fun t39_20 =>
                  wIdx a0 (tL_8.getD 0 undef) none 1 fun t42_21 =>
                  wLd t42_21 none H3 fun t43_22 =>
                  wBin .andNot t39_20 t43_22 fun t44_23 =>
                  wBin .eql t44_23 (.int .u32 0) fun t45_24 =>
                  (((((wLd t42_21 none H3 fun tq_28 => tq_28 = t43_22) ∧ True) ∧ (((wLd t38_19 none H3 fun tq_27 => tq_27 = t39_20) ∧ True) ∧ (((wLd t31_16 none H3 fun tq_26 => tq_26 = t32_17) ∧ True) ∧ (((wLd t24_13 none H3 fun tq_25 => tq_25 = t25_14) ∧ True) ∧ True))))) ∧ (
                    tj_10 [t45_24] H3 nx5)) ∨ False) (
                  (((((wLd t31_16 none H3 fun tq_30 => tq_30 = t32_17) ∧ True) ∧ (((wLd t24_13 none H3 fun tq_29 => tq_29 = t25_14) ∧ True) ∧ True))) ∧ (
                    tj_10 [(.bool false)] H3 nx5)) ∨ False)) (
                  (((((wLd t24_13 none H3 fun tq_31 => tq_31 = t25_14) ∧ True) ∧ True)) ∧ (
                    tj_10 [(.bool false)] H3 nx5)) ∨ False)) (
                  ((True) ∧ (
                    tj_10 [(.bool false)] H3 nx5)) ∨ False)) (fun tL_11 H4 nx4 =>
            wIf (tL_11.getD 0 undef) (
              wBuild [.int .i64 0, .int .i64 0, .int .i64 0] [(0, 1), (1, 1), (2, 1)] [(0, (tL_4.getD 0 undef)), (1, (tL_8.getD 0 undef)), (2, (.int .i64 (-1)))] fun t49_32 =>
              wSt t4_1 t49_32 3 H4 fun H6 =>
              wLd t4_1 (some 3) H6 fun tr_33 =>
              forceV (.tuple ⟨[tr_33, (.bool true)]⟩) fun tv_34 => k tv_34 H6 nx4) (
              wBin .add (tL_8.getD 0 undef) (.int .i64 1) fun t50_35 =>
              tih_7 [t50_35] H4 nx4))) (
          wBin .add (tL_4.getD 0 undef) (.int .i64 1) fun t51_36 =>
          tih_3 [t51_36] H3 nx3)) [(.int .i64 0)] H2 nx2) (
      wBuild [.int .i64 0, .int .i64 0, .int .i64 0] [(0, 1), (1, 1), (2, 1)] [] fun t52_37 =>
      wSt t4_1 t52_37 3 H2 fun H7 =>
      wLd t4_1 (some 3) H7 fun tr_38 =>
      forceV (.tuple ⟨[tr_38, (.bool false)]⟩) fun tv_39 => k tv_39 H7 nx2)) [(.int .i64 0)] H1 nx1
theorem eq54 (a0 a1 : Value) (H : Heap) (nx : Nat) (k : EP) : wBody Try.prog 53 6 d54 [(.s 4, some (some 3)), (.s 5, none)] [a0, a1] H nx k = F54 a0 a1 H nx k := by kernel_rfl
theorem spec54 {a0 a1 : Value} {H : Heap} {nx : Nat} {k : EP} (h : F54 a0 a1 H nx k) : Ans Try.prog 54 [a0, a1] H nx k :=
  spec_of_body mixed namesOK cfn54 ok54 (by simp) ((eq54 a0 a1 H nx k).symm ▸ h)

/-! 55: ordinal/hypergraph.isolate -/
def d55 : D :=
  (.seq
    (.ops [
        (none, [⟨none, some 4, .a (.alloc [.int .i64 0, .int .i64 0, .int .i64 0])⟩,
        ⟨none, some 5, .p (.mv (.c (.bool false)))⟩])] (.one .nil))
    (.seq
      (.seq
        (.ops [
            (none, [⟨none, some 10, .p (.mv (.s 0))⟩,
            ⟨none, some 11, .p (.mv (.c (.int .i64 0)))⟩])] (.one .nil))
        (.block 0
          (.loop [11] [5, 6, 7, 8, 9, 12, 13, 14, 15, 16, 17, 18, 19, 20, 21, 22, 23, 24, 25, 26, 27, 28, 29, 30, 31, 32, 33, 34, 35, 36]
            (.seq
              (.ops [
                  (none, [⟨none, some 12, .p (.bin .lss (.s 11) (.s 10))⟩])] (.one .nil))
              (.seq
                (.cond (.s 12)
                  .skip
                  (.exit 0))
                (.seq
                  (.block 1
                    (.seq
                      (.ops [
                          (none, [⟨none, some 13, .p (.mv (.s 11))⟩,
                          ⟨none, some 6, .p (.mv (.s 13))⟩])] (.one .nil))
                      (.seq
                        (.ops [
                            (none, [⟨none, some 7, .p (.mv (.c (.int .i64 0)))⟩,
                            ⟨none, some 8, .p (.mv (.c (.int .i64 0)))⟩])] (.one .nil))
                        (.seq
                          (.seq
                            (.ops [
                                (none, [⟨none, some 14, .p (.mv (.s 1))⟩,
                                ⟨none, some 15, .r (.len (.s 14) 0)⟩,
                                ⟨none, some 16, .p (.mv (.c (.int .i64 0)))⟩])] (.one .nil))
                            (.block 2
                              (.loop [7, 8, 16] [9, 17, 18, 19, 20, 21, 22, 23, 24, 25, 26, 27, 28, 29, 30]
                                (.seq
                                  (.ops [
                                      (none, [⟨none, some 17, .p (.bin .lss (.s 16) (.s 15))⟩])] (.one .nil))
                                  (.seq
                                    (.cond (.s 17)
                                      .skip
                                      (.exit 2))
                                    (.join [7, 8] [9, 18, 19, 20, 21, 22, 23, 24, 25, 26, 27, 28, 29]
                                      (.block 3
                                        (.seq
                                          (.ops [
                                              (none, [⟨none, some 18, .p (.mv (.s 16))⟩,
                                              ⟨none, some 9, .p (.mv (.s 18))⟩])] (.one .nil))
                                          (.seq
                                            (.ops [
                                                (none, [⟨none, some 19, .p (.mv (.s 1))⟩,
                                                ⟨none, some 20, .p (.mv (.s 9))⟩,
                                                ⟨none, some 21, .p (.idx (.s 19) (.s 20) none 1)⟩,
                                                ⟨none, some 22, .r (.ld (.s 21) none)⟩,
                                                ⟨none, some 23, .p (.mv (.s 6))⟩,
                                                ⟨none, some 24, .p (.bin .shr (.s 22) (.s 23))⟩,
                                                ⟨none, some 25, .p (.bin .and (.s 24) (.c (.int .u32 1)))⟩,
                                                ⟨none, some 26, .p (.bin .eql (.s 25) (.c (.int .u32 1)))⟩])] (.one .nil))
                                            (.cond (.s 26)
                                              (.seq
                                                (.ops [
                                                    (none, [⟨none, some 27, .p (.mv (.s 7))⟩,
                                                    ⟨none, some 28, .p (.bin .add (.s 27) (.c (.int .i64 1)))⟩,
                                                    ⟨none, some 7, .p (.mv (.s 28))⟩])] (.one .nil))
                                                (.ops [
                                                    (none, [⟨none, some 29, .p (.mv (.s 9))⟩,
                                                    ⟨none, some 8, .p (.mv (.s 29))⟩])] (.one .nil)))
                                              .skip))))
                                      (.ops [
                                          (none, [⟨none, some 30, .p (.bin .add (.s 16) (.c (.int .i64 1)))⟩,
                                          ⟨none, some 16, .p (.mv (.s 30))⟩])] (.one .nil))))))))
                          (.seq
                            (.ops [
                                (none, [⟨none, some 31, .p (.mv (.s 7))⟩,
                                ⟨none, some 32, .p (.bin .eql (.s 31) (.c (.int .i64 1)))⟩])] (.one .nil))
                            (.cond (.s 32)
                              (.seq
                                (.ops [
                                    (none, [⟨none, some 33, .p (.mv (.s 8))⟩,
                                    ⟨none, some 34, .p (.mv (.s 6))⟩,
                                    ⟨none, some 35, .p (.build [.int .i64 0, .int .i64 0, .int .i64 0] [(0, 1), (1, 1), (2, 1)] [(0, .s 33), (1, .c (.int .i64 (-1))), (2, .s 34)])⟩,
                                    ⟨none, none, .e (.st (.s 4) (.s 35) 3)⟩,
                                    ⟨none, some 5, .p (.mv (.c (.bool true)))⟩])] (.one .nil))
                                .ret)
                              .skip))))))
                  (.ops [
                      (none, [⟨none, some 36, .p (.bin .add (.s 11) (.c (.int .i64 1)))⟩,
                      ⟨none, some 11, .p (.mv (.s 36))⟩])] (.one .nil))))))))
      (.seq
        (.ops [
            (none, [⟨none, some 37, .p (.build [.int .i64 0, .int .i64 0, .int .i64 0] [(0, 1), (1, 1), (2, 1)] [])⟩,
            ⟨none, none, .e (.st (.s 4) (.s 37) 3)⟩,
            ⟨none, some 5, .p (.mv (.c (.bool false)))⟩])] (.one .nil))
        .ret)))
theorem cfn55 : cfn Try.prog 55 = some ⟨38, 6, d55.erase, [(.s 4, some (some 3)), (.s 5, none)]⟩ := by kernel_rfl
theorem ok55 : d55.ok 38 6 = true := by kernel_rfl
noncomputable def F55 (a0 a1 : Value) (H : Heap) (nx : Nat) (k : EP) : Prop :=
  wNew (.cells [.int .i64 0, .int .i64 0, .int .i64 0] 0) .ptr H nx fun t4_1 H1 nx1 =>
  wLoop (fun tih_2 tL_3 H2 nx2 =>
    wBin .lss (tL_3.getD 0 undef) a0 fun t12_4 =>
    wIf t12_4 (
      wLen a1 0 H2 fun t15_5 =>
      wLoop (fun tih_6 tL_7 H3 nx3 =>
        wBin .lss (tL_7.getD 2 undef) t15_5 fun t17_8 =>
        wIf t17_8 (
          wJoin (fun tj_9 =>
            wIdx a1 (tL_7.getD 2 undef) none 1 fun t21_11 =>
            wLd t21_11 none H3 fun t22_12 =>
            wBin .shr t22_12 (tL_3.getD 0 undef) fun t24_13 =>
            wBin .and t24_13 (.int .u32 1) fun t25_14 =>
            wBin .eql t25_14 (.int .u32 1) fun t26_15 =>
            wIf t26_15 (
              wBin .add (tL_7.getD 0 undef) (.int .i64 1) fun t28_16 =>
              tj_9 [t28_16, (tL_7.getD 2 undef)] H3 nx3) (
              tj_9 [(tL_7.getD 0 undef), (tL_7.getD 1 undef)] H3 nx3)) (fun tL_10 H4 nx4 =>
            wBin .add (tL_7.getD 2 undef) (.int .i64 1) fun t30_17 =>
            tih_6 [(tL_10.getD 0 undef), (tL_10.getD 1 undef), t30_17] H4 nx4)) (
          wBin .eql (tL_7.getD 0 undef) (.int .i64 1) fun t32_18 =>
          wIf t32_18 (
            wBuild [.int .i64 0, .int .i64 0, .int .i64 0] [(0, 1), (1, 1), (2, 1)] [(0, (tL_7.getD 1 undef)), (1, (.int .i64 (-1))), (2, (tL_3.getD 0 undef))] fun t35_19 =>
            wSt t4_1 t35_19 3 H3 fun H5 =>
            wLd t4_1 (some 3) H5 fun tr_20 =>
            forceV (.tuple ⟨[tr_20, (.bool true)]⟩) fun tv_21 => k tv_21 H5 nx3) (
            wBin .add (tL_3.getD 0 undef) (.int .i64 1) fun t36_22 =>
            tih_2 [t36_22] H3 nx3))) [(.int .i64 0), (.int .i64 0), (.int .i64 0)] H2 nx2) (
      wBuild [.int .i64 0, .int .i64 0, .int .i64 0] [(0, 1), (1, 1), (2, 1)] [] fun t37_23 =>
      wSt t4_1 t37_23 3 H2 fun H6 =>
      wLd t4_1 (some 3) H6 fun tr_24 =>
      forceV (.tuple ⟨[tr_24, (.bool false)]⟩) fun tv_25 => k tv_25 H6 nx2)) [(.int .i64 0)] H1 nx1
theorem eq55 (a0 a1 : Value) (H : Heap) (nx : Nat) (k : EP) : wBody Try.prog 38 6 d55 [(.s 4, some (some 3)), (.s 5, none)] [a0, a1] H nx k = F55 a0 a1 H nx k := by kernel_rfl
theorem spec55 {a0 a1 : Value} {H : Heap} {nx : Nat} {k : EP} (h : F55 a0 a1 H nx k) : Ans Try.prog 55 [a0, a1] H nx k :=
  spec_of_body mixed namesOK cfn55 ok55 (by simp) ((eq55 a0 a1 H nx k).symm ▸ h)

/-! 38: ordinal/hypergraph.Reduce -/
def d38 : D :=
  (.seq
    (.ops [
        (none, [⟨none, some 1, .a (.box (.s 0))⟩,
        ⟨none, some 2, .p (.mv (.c (.slice none 0 0)))⟩,
        ⟨none, some 3, .p (.mv (.c (.slice none 0 0)))⟩])] (.one .nil))
    (.seq
      (.seq
        (.ops [
            (none, [⟨none, some 9, .r (.ld (.s 1) (some 2))⟩,
            ⟨none, some 10, .e (.call (.c (.func (.func 37) ⟨[]⟩ ⟨[]⟩)) [.s 9])⟩,
            ⟨none, some 11, .p (.bin .neq (.s 10) (.c (.int .i64 0)))⟩])] (.one .nil))
        (.cond (.s 11)
          (.seq
            (.ops [
                (none, [⟨none, some 2, .p (.mv (.c (.slice none 0 0)))⟩,
                ⟨none, some 3, .p (.mv (.c (.slice none 0 0)))⟩])] (.one .nil))
            .ret)
          .skip))
      (.seq
        (.ops [
            (none, [⟨none, some 12, .p (.fld (.s 1) 1)⟩,
            ⟨none, some 13, .r (.ld (.s 12) none)⟩,
            ⟨none, some 14, .e (.call (.c (.func (.func 53) ⟨[]⟩ ⟨[]⟩)) [.s 13])⟩,
            ⟨none, some 4, .p (.mv (.s 14))⟩])] (.one .nil))
        (.seq
          (.ops [
              (none, [⟨none, some 15, .p (.mv (.s 4))⟩,
              ⟨none, some 16, .r (.len (.s 15) 0)⟩,
              ⟨none, some 17, .a (.msl (.s 16) (.s 16) [.bool false])⟩,
              ⟨none, some 5, .p (.mv (.s 17))⟩])] (.one .nil))
          (.seq
            (.ops [
                (none, [⟨none, some 6, .p (.mv (.c (.slice none 0 0)))⟩])] (.one .nil))
            (.block 0
              (.loop [6] [2, 3, 7, 8, 18, 19, 20, 21, 22, 23, 24, 25, 26, 27, 28, 29, 30, 31, 32, 33, 34, 35, 36, 37, 38, 39, 40, 41, 42, 43, 44, 45, 46, 47, 48, 49, 50, 51, 52, 53, 54, 55, 56]
                (.block 1
                  (.seq
                    (.ops [
                        (none, [⟨none, some 19, .p (.mv (.s 4))⟩,
                        ⟨none, some 20, .p (.mv (.s 5))⟩,
                        ⟨none, some 21, .e (.call (.c (.func (.func 54) ⟨[]⟩ ⟨[]⟩)) [.s 19, .s 20])⟩,
                        ⟨none, some 18, .p (.mv (.s 21))⟩,
                        ⟨none, some 22, .p (.ext (.s 18) 0)⟩,
                        ⟨none, some 23, .p (.ext (.s 18) 1)⟩,
                        ⟨none, some 7, .a (.alloc [.int .i64 0, .int .i64 0, .int .i64 0])⟩,
                        ⟨none, none, .e (.st (.s 7) (.s 22) 3)⟩,
                        ⟨none, some 8, .p (.mv (.s 23))⟩])] (.one .nil))
                    (.join [] [2, 3, 8, 24, 25, 26, 27, 28, 29, 30, 31, 32, 33, 34, 35, 36, 37, 38, 39, 40, 41, 42, 43, 44, 45, 46, 47, 48, 49, 50, 51, 52]
                      (.seq
                        (.ops [
                            (none, [⟨none, some 24, .p (.mv (.s 8))⟩])] (.one .nil))
                        (.cond (.s 24)
                          (.seq
                            (.ops [
                                (none, [⟨none, some 25, .p (.mv (.s 4))⟩,
                                ⟨none, some 26, .p (.fld (.s 7) 0)⟩,
                                ⟨none, some 27, .r (.ld (.s 26) none)⟩,
                                ⟨none, some 28, .p (.idx (.s 25) (.s 27) none 1)⟩,
                                ⟨none, none, .e (.st (.s 28) (.c (.int .u32 0)) 1)⟩])] (.one .nil))
                            (.ops [
                                (none, [⟨none, some 29, .p (.mv (.s 5))⟩,
                                ⟨none, some 30, .p (.fld (.s 7) 0)⟩,
                                ⟨none, some 31, .r (.ld (.s 30) none)⟩,
                                ⟨none, some 32, .p (.idx (.s 29) (.s 31) none 1)⟩,
                                ⟨none, none, .e (.st (.s 32) (.c (.bool true)) 1)⟩])] (.one .nil)))
                          (.seq
                            (.ops [
                                (none, [⟨none, some 34, .p (.fld (.s 1) 0)⟩,
                                ⟨none, some 35, .r (.ld (.s 34) none)⟩,
                                ⟨none, some 36, .p (.mv (.s 4))⟩,
                                ⟨none, some 37, .e (.call (.c (.func (.func 55) ⟨[]⟩ ⟨[]⟩)) [.s 35, .s 36])⟩,
                                ⟨none, some 33, .p (.mv (.s 37))⟩,
                                ⟨none, some 38, .p (.ext (.s 33) 0)⟩,
                                ⟨none, some 39, .p (.ext (.s 33) 1)⟩,
                                ⟨none, none, .e (.st (.s 7) (.s 38) 3)⟩,
                                ⟨none, some 8, .p (.mv (.s 39))⟩])] (.one .nil))
                            (.seq
                              (.ops [
                                  (none, [⟨none, some 40, .p (.mv (.s 8))⟩])] (.one .nil))
                              (.cond (.s 40)
                                (.draw [0, 0, 2, 7, 15, 0, 32, 96, 255, 511, 1023] [
                                    (none, [⟨none, some 41, .p (.mv (.s 4))⟩,
                                    ⟨none, some 42, .p (.fld (.s 7) 0)⟩,
                                    ⟨none, some 43, .r (.ld (.s 42) none)⟩,
                                    ⟨none, some 44, .p (.idx (.s 41) (.s 43) none 1)⟩,
                                    ⟨none, some 45, .r (.ld (.s 44) none)⟩,
                                    ⟨none, some 46, .p (.fld (.s 7) 2)⟩,
                                    ⟨none, some 47, .r (.ld (.s 46) none)⟩,
                                    ⟨none, some 48, .p (.bin .shl (.c (.int .u32 1)) (.s 47))⟩,
                                    ⟨none, some 49, .p (.bin .andNot (.s 45) (.s 48))⟩,
                                    ⟨none, some 50, .p (.idx (.s 41) (.s 43) none 1)⟩,
                                    ⟨none, none, .e (.st (.s 50) (.s 49) 1)⟩])] (.one .nil))
                                (.seq
                                  (.ops [
                                      (none, [⟨none, some 51, .p (.mv (.s 6))⟩,
                                      ⟨none, some 52, .p (.mv (.s 4))⟩,
                                      ⟨none, some 2, .p (.mv (.s 51))⟩,
                                      ⟨none, some 3, .p (.mv (.s 52))⟩])] (.one .nil))
                                  .ret))))))
                      (.ops [
                          (none, [⟨none, some 53, .p (.mv (.s 6))⟩,
                          ⟨none, some 54, .r (.ld (.s 7) (some 3))⟩,
                          ⟨none, some 55, .a (.bsl 1 3 [.int .i64 0, .int .i64 0, .int .i64 0] [(0, .s 54)])⟩,
                          ⟨none, some 56, .e (.app (.s 53) (.s 55) 3 24)⟩,
                          ⟨none, some 6, .p (.mv (.s 56))⟩])] (.one .nil))))))))))))
theorem cfn38 : cfn Try.prog 38 = some ⟨57, 6, d38.erase, [(.s 2, none), (.s 3, none)]⟩ := by kernel_rfl
theorem ok38 : d38.ok 57 6 = true := by kernel_rfl
noncomputable def F38 (a0 : Value) (H : Heap) (nx : Nat) (k : EP) : Prop :=
  dBox a0 fun tc_1 => wNew (.cells tc_1 0) .ptr H nx fun t1_2 H1 nx1 =>
  wLd t1_2 (some 2) H1 fun t9_3 =>
  wCall Try.prog 37 [t9_3] H1 nx1 fun t10_4 H2 nx2 =>
  wBin .neq t10_4 (.int .i64 0) fun t11_5 =>
  wIf t11_5 (
    forceV (.tuple ⟨[(.slice none 0 0), (.slice none 0 0)]⟩) fun tv_6 => k tv_6 H2 nx2) (
    wFld t1_2 1 fun t12_7 =>
    wLd t12_7 none H2 fun t13_8 =>
    wCall Try.prog 53 [t13_8] H2 nx2 fun t14_9 H3 nx3 =>
    wLen t14_9 0 H3 fun t16_10 =>
    dMsl t16_10 t16_10 [.bool false] fun tc_11 tl_13 tm_14 => wNew (.cells tc_11 0) (.slice tl_13 tm_14) H3 nx3 fun t17_12 H4 nx4 =>
    wLoop (fun tih_15 tL_16 H5 nx5 =>
      wCall Try.prog 54 [t14_9, t17_12] H5 nx5 fun t21_17 H6 nx6 =>
      wExt t21_17 0 fun t22_18 =>
      wExt t21_17 1 fun t23_19 =>
      wNew (.cells [.int .i64 0, .int .i64 0, .int .i64 0] 0) .ptr H6 nx6 fun t7_20 H7 nx7 =>
      wSt t7_20 t22_18 3 H7 fun H8 =>
      wJoin (fun tj_21 =>
        wIf t23_19 (
          wFld t7_20 0 fun t26_23 =>
          wLd t26_23 none H8 fun t27_24 =>
          wIdx t14_9 t27_24 none 1 fun t28_25 =>
          wSt t28_25 (.int .u32 0) 1 H8 fun H10 =>
          wFld t7_20 0 fun t30_26 =>
          wLd t30_26 none H10 fun t31_27 =>
          wIdx t17_12 t31_27 none 1 fun t32_28 =>
          wSt t32_28 (.bool true) 1 H10 fun H11 =>
          tj_21 [] H11 nx7) (
          wFld t1_2 0 fun t34_29 =>
          wLd t34_29 none H8 fun t35_30 =>
          wCall Try.prog 55 [t35_30, t14_9] H8 nx7 fun t37_31 H12 nx12 =>
          wExt t37_31 0 fun t38_32 =>
          wExt t37_31 1 fun t39_33 =>
          wSt t7_20 t38_32 3 H12 fun H13 =>
          wIf t39_33 (
            forceN (nx12 + 11) fun nx14 =>
            wFld t7_20 0 fun t42_34 =>
            wLd t42_34 none H13 fun t43_35 =>
            wIdx t14_9 t43_35 none 1 fun t44_36 =>
            wLd t44_36 none H13 fun t45_37 =>
            wFld t7_20 2 fun t46_38 =>
            wLd t46_38 none H13 fun t47_39 =>
            wBin .shl (.int .u32 1) t47_39 fun t48_40 =>
            wBin .andNot t45_37 t48_40 fun t49_41 =>
            wIdx t14_9 t43_35 none 1 fun t50_42 =>
            wSt t50_42 t49_41 1 H13 fun H15 =>
            (((((True) ∧ ((wLd t46_38 none H13 fun tq_45 => tq_45 = t47_39) ∧ True)) ∧ (((True) ∧ ((wLd t44_36 none H13 fun tq_44 => tq_44 = t45_37) ∧ True)) ∧ (((True) ∧ ((wLd t42_34 none H13 fun tq_43 => tq_43 = t43_35) ∧ True)) ∧ True)))) ∧ (
              tj_21 [] H15 nx14)) ∨ False) (
            forceV (.tuple ⟨[(tL_16.getD 0 undef), t14_9]⟩) fun tv_46 => k tv_46 H13 nx12))) (fun tL_22 H9 nx9 =>
        wLd t7_20 (some 3) H9 fun t54_47 =>
        dBsl 1 3 [.int .i64 0, .int .i64 0, .int .i64 0] [(0, t54_47)] fun tc_48 => wNew (.cells tc_48 0) (.slice 1 1) H9 nx9 fun t55_49 H16 nx16 =>
        wApp (tL_16.getD 0 undef) t55_49 3 24 H16 nx16 fun t56_50 H17 nx17 =>
        tih_15 [t56_50] H17 nx17)) [(.slice none 0 0)] H4 nx4)
theorem eq38 (a0 : Value) (H : Heap) (nx : Nat) (k : EP) : wBody Try.prog 57 6 d38 [(.s 2, none), (.s 3, none)] [a0] H nx k = F38 a0 H nx k := by kernel_rfl
theorem spec38 {a0 : Value} {H : Heap} {nx : Nat} {k : EP} (h : F38 a0 H nx k) : Ans Try.prog 38 [a0] H nx k :=
  spec_of_body mixed namesOK cfn38 ok38 (by simp) ((eq38 a0 H nx k).symm ▸ h)

/-! 56: slices.IndexFunc[[]uint32,uint32] -/
def d56 : D :=
  (.seq
    (.ops [
        (none, [⟨none, some 4, .p (.mv (.c (.int .i64 0)))⟩])] (.one .nil))
    (.seq
      (.seq
        (.ops [
            (none, [⟨none, some 6, .p (.mv (.s 0))⟩,
            ⟨none, some 7, .r (.len (.s 6) 0)⟩,
            ⟨none, some 8, .p (.mv (.c (.int .i64 0)))⟩])] (.one .nil))
        (.block 0
          (.loop [8] [4, 5, 9, 10, 11, 12, 13, 14, 15, 16, 17, 18]
            (.seq
              (.ops [
                  (none, [⟨none, some 9, .p (.bin .lss (.s 8) (.s 7))⟩])] (.one .nil))
              (.seq
                (.cond (.s 9)
                  .skip
                  (.exit 0))
                (.seq
                  (.block 1
                    (.seq
                      (.ops [
                          (none, [⟨none, some 10, .p (.mv (.s 8))⟩,
                          ⟨none, some 5, .p (.mv (.s 10))⟩])] (.one .nil))
                      (.seq
                        (.ops [
                            (none, [⟨none, some 11, .p (.mv (.s 1))⟩,
                            ⟨none, some 12, .p (.mv (.s 0))⟩,
                            ⟨none, some 13, .p (.mv (.s 5))⟩,
                            ⟨none, some 14, .p (.idx (.s 12) (.s 13) none 1)⟩,
                            ⟨none, some 15, .r (.ld (.s 14) none)⟩,
                            ⟨none, some 16, .e (.call (.s 11) [.s 15])⟩])] (.one .nil))
                        (.cond (.s 16)
                          (.seq
                            (.ops [
                                (none, [⟨none, some 17, .p (.mv (.s 5))⟩,
                                ⟨none, some 4, .p (.mv (.s 17))⟩])] (.one .nil))
                            .ret)
                          .skip))))
                  (.ops [
                      (none, [⟨none, some 18, .p (.bin .add (.s 8) (.c (.int .i64 1)))⟩,
                      ⟨none, some 8, .p (.mv (.s 18))⟩])] (.one .nil))))))))
      (.seq
        (.ops [
            (none, [⟨none, some 4, .p (.mv (.c (.int .i64 (-1))))⟩])] (.one .nil))
        .ret)))
theorem cfn56 : cfn Try.prog 56 = some ⟨19, 5, d56.erase, [(.s 4, none)]⟩ := by kernel_rfl
theorem ok56 : d56.ok 19 5 = true := by kernel_rfl
noncomputable def F56 (a0 a1 : Value) (H : Heap) (nx : Nat) (k : EP) : Prop :=
  wLen a0 0 H fun t7_1 =>
  wLoop (fun tih_2 tL_3 H1 nx1 =>
    wBin .lss (tL_3.getD 0 undef) t7_1 fun t9_4 =>
    wIf t9_4 (
      wIdx a0 (tL_3.getD 0 undef) none 1 fun t14_5 =>
      wLd t14_5 none H1 fun t15_6 =>
      wCallV Try.prog a1 [t15_6] H1 nx1 fun t16_7 H2 nx2 =>
      wIf t16_7 (
        forceV (tL_3.getD 0 undef) fun tv_8 => k tv_8 H2 nx2) (
        wBin .add (tL_3.getD 0 undef) (.int .i64 1) fun t18_9 =>
        tih_2 [t18_9] H2 nx2)) (
      forceV (.int .i64 (-1)) fun tv_10 => k tv_10 H1 nx1)) [(.int .i64 0)] H nx
theorem eq56 (a0 a1 : Value) (H : Heap) (nx : Nat) (k : EP) : wBody Try.prog 19 5 d56 [(.s 4, none)] [a0, a1] H nx k = F56 a0 a1 H nx k := by kernel_rfl
theorem spec56 {a0 a1 : Value} {H : Heap} {nx : Nat} {k : EP} (h : F56 a0 a1 H nx k) : Ans Try.prog 56 [a0, a1] H nx k :=
  spec_of_body mixed namesOK cfn56 ok56 (by simp) ((eq56 a0 a1 H nx k).symm ▸ h)

/-! 40: ordinal/hypergraph.Acyclic.1 -/
def d40 : D :=
  (.seq
    (.ops [
        (none, [⟨none, some 2, .p (.mv (.c (.bool false)))⟩])] (.one .nil))
    (.seq
      (.ops [
          (none, [⟨none, some 3, .p (.mv (.s 0))⟩,
          ⟨none, some 4, .p (.bin .neq (.s 3) (.c (.int .u32 0)))⟩,
          ⟨none, some 2, .p (.mv (.s 4))⟩])] (.one .nil))
      .ret))
theorem cfn40 : cfn Try.prog 40 = some ⟨5, 3, d40.erase, [(.s 2, none)]⟩ := by kernel_rfl
theorem ok40 : d40.ok 5 3 = true := by kernel_rfl
noncomputable def F40 (a0 : Value) (H : Heap) (nx : Nat) (k : EP) : Prop :=
  wBin .neq a0 (.int .u32 0) fun t4_1 =>
  forceV t4_1 fun tv_2 => k tv_2 H nx
theorem eq40 (a0 : Value) (H : Heap) (nx : Nat) (k : EP) : wBody Try.prog 5 3 d40 [(.s 2, none)] [a0] H nx k = F40 a0 H nx k := by kernel_rfl
theorem spec40 {a0 : Value} {H : Heap} {nx : Nat} {k : EP} (h : F40 a0 H nx k) : Ans Try.prog 40 [a0] H nx k :=
  spec_of_body mixed namesOK cfn40 ok40 (by simp) ((eq40 a0 H nx k).symm ▸ h)

/-! 39: slices.ContainsFunc[[]uint32,uint32] -/
def d39 : D :=
  (.seq
    (.ops [
        (none, [⟨none, some 4, .p (.mv (.c (.bool false)))⟩])] (.one .nil))
    (.seq
      (.ops [
          (none, [⟨none, some 5, .p (.mv (.s 0))⟩,
          ⟨none, some 6, .p (.mv (.s 1))⟩,
          ⟨none, some 7, .e (.call (.c (.func (.func 56) ⟨[]⟩ ⟨[]⟩)) [.s 5, .s 6])⟩,
          ⟨none, some 8, .p (.bin .geq (.s 7) (.c (.int .i64 0)))⟩,
          ⟨none, some 4, .p (.mv (.s 8))⟩])] (.one .nil))
      .ret))
theorem cfn39 : cfn Try.prog 39 = some ⟨9, 4, d39.erase, [(.s 4, none)]⟩ := by kernel_rfl
theorem ok39 : d39.ok 9 4 = true := by kernel_rfl
noncomputable def F39 (a0 a1 : Value) (H : Heap) (nx : Nat) (k : EP) : Prop :=
  wCall Try.prog 56 [a0, a1] H nx fun t7_1 H1 nx1 =>
  wBin .geq t7_1 (.int .i64 0) fun t8_2 =>
  forceV t8_2 fun tv_3 => k tv_3 H1 nx1
theorem eq39 (a0 a1 : Value) (H : Heap) (nx : Nat) (k : EP) : wBody Try.prog 9 4 d39 [(.s 4, none)] [a0, a1] H nx k = F39 a0 a1 H nx k := by kernel_rfl
theorem spec39 {a0 a1 : Value} {H : Heap} {nx : Nat} {k : EP} (h : F39 a0 a1 H nx k) : Ans Try.prog 39 [a0, a1] H nx k :=
  spec_of_body mixed namesOK cfn39 ok39 (by simp) ((eq39 a0 a1 H nx k).symm ▸ h)

/-! 22: ordinal/hypergraph.Acyclic -/
def d22 : D :=
  (.seq
    (.ops [
        (none, [⟨none, some 1, .a (.box (.s 0))⟩,
        ⟨none, some 2, .p (.mv (.c (.bool false)))⟩])] (.one .nil))
    (.seq
      (.seq
        (.ops [
            (none, [⟨none, some 5, .r (.ld (.s 1) (some 2))⟩,
            ⟨none, some 6, .e (.call (.c (.func (.func 37) ⟨[]⟩ ⟨[]⟩)) [.s 5])⟩,
            ⟨none, some 7, .p (.bin .neq (.s 6) (.c (.int .i64 0)))⟩])] (.one .nil))
        (.cond (.s 7)
          (.seq
            (.ops [
                (none, [⟨none, some 2, .p (.mv (.c (.bool false)))⟩])] (.one .nil))
            .ret)
          .skip))
      (.seq
        (.ops [
            (none, [⟨none, some 9, .r (.ld (.s 1) (some 2))⟩,
            ⟨none, some 10, .e (.call (.c (.func (.func 38) ⟨[]⟩ ⟨[]⟩)) [.s 9])⟩,
            ⟨none, some 8, .p (.mv (.s 10))⟩,
            ⟨none, some 11, .p (.ext (.s 8) 0)⟩,
            ⟨none, some 12, .p (.ext (.s 8) 1)⟩,
            ⟨none, some 3, .p (.mv (.s 11))⟩,
            ⟨none, some 4, .p (.mv (.s 12))⟩])] (.one .nil))
        (.seq
          (.ops [
              (none, [⟨none, some 13, .p (.mv (.s 4))⟩,
              ⟨none, some 14, .e (.call (.c (.func (.func 39) ⟨[]⟩ ⟨[]⟩)) [.s 13, .c (.func (.func 40) ⟨[]⟩ ⟨[]⟩)])⟩,
              ⟨none, some 15, .p (.un .not (.s 14))⟩,
              ⟨none, some 2, .p (.mv (.s 15))⟩])] (.one .nil))
          .ret))))
theorem cfn22 : cfn Try.prog 22 = some ⟨16, 5, d22.erase, [(.s 2, none)]⟩ := by kernel_rfl
theorem ok22 : d22.ok 16 5 = true := by kernel_rfl
noncomputable def F22 (a0 : Value) (H : Heap) (nx : Nat) (k : EP) : Prop :=
  dBox a0 fun tc_1 => wNew (.cells tc_1 0) .ptr H nx fun t1_2 H1 nx1 =>
  wLd t1_2 (some 2) H1 fun t5_3 =>
  wCall Try.prog 37 [t5_3] H1 nx1 fun t6_4 H2 nx2 =>
  wBin .neq t6_4 (.int .i64 0) fun t7_5 =>
  wIf t7_5 (
    forceV (.bool false) fun tv_6 => k tv_6 H2 nx2) (
    wLd t1_2 (some 2) H2 fun t9_7 =>
    wCall Try.prog 38 [t9_7] H2 nx2 fun t10_8 H3 nx3 =>
    wExt t10_8 0 fun t11_9 =>
    wExt t10_8 1 fun t12_10 =>
    wCall Try.prog 39 [t12_10, (.func (.func 40) ⟨[]⟩ ⟨[]⟩)] H3 nx3 fun t14_11 H4 nx4 =>
    wUn .not t14_11 fun t15_12 =>
    forceV t15_12 fun tv_13 => k tv_13 H4 nx4)
theorem eq22 (a0 : Value) (H : Heap) (nx : Nat) (k : EP) : wBody Try.prog 16 5 d22 [(.s 2, none)] [a0] H nx k = F22 a0 H nx k := by kernel_rfl
theorem spec22 {a0 : Value} {H : Heap} {nx : Nat} {k : EP} (h : F22 a0 H nx k) : Ans Try.prog 22 [a0] H nx k :=
  spec_of_body mixed namesOK cfn22 ok22 (by simp) ((eq22 a0 H nx k).symm ▸ h)

/-! 23: slices.Equal[[]ordinal/elimination.Bag,ordinal/elimination.Bag] -/
def d23 : D :=
  (.seq
    (.ops [
        (none, [⟨none, some 4, .p (.mv (.c (.bool false)))⟩])] (.one .nil))
    (.seq
      (.seq
        (.ops [
            (none, [⟨none, some 6, .p (.mv (.s 0))⟩,
            ⟨none, some 7, .r (.len (.s 6) 0)⟩,
            ⟨none, some 8, .p (.mv (.s 1))⟩,
            ⟨none, some 9, .r (.len (.s 8) 0)⟩,
            ⟨none, some 10, .p (.bin .neq (.s 7) (.s 9))⟩])] (.one .nil))
        (.cond (.s 10)
          (.seq
            (.ops [
                (none, [⟨none, some 4, .p (.mv (.c (.bool false)))⟩])] (.one .nil))
            .ret)
          .skip))
      (.seq
        (.seq
          (.ops [
              (none, [⟨none, some 11, .p (.mv (.s 0))⟩,
              ⟨none, some 12, .r (.len (.s 11) 0)⟩,
              ⟨none, some 13, .p (.mv (.c (.int .i64 0)))⟩])] (.one .nil))
          (.block 0
            (.loop [13] [4, 5, 14, 15, 16, 17, 18, 19, 20, 21, 22, 23, 24, 25]
              (.seq
                (.ops [
                    (none, [⟨none, some 14, .p (.bin .lss (.s 13) (.s 12))⟩])] (.one .nil))
                (.seq
                  (.cond (.s 14)
                    .skip
                    (.exit 0))
                  (.seq
                    (.block 1
                      (.seq
                        (.ops [
                            (none, [⟨none, some 15, .p (.mv (.s 13))⟩,
                            ⟨none, some 5, .p (.mv (.s 15))⟩])] (.one .nil))
                        (.seq
                          (.draw [0, 0, 3, 7, 0, 0, 48, 112, 255] [
                              (none, [⟨none, some 16, .p (.mv (.s 0))⟩,
                              ⟨none, some 17, .p (.mv (.s 5))⟩,
                              ⟨none, some 18, .p (.idx (.s 16) (.s 17) none 3)⟩,
                              ⟨none, some 19, .r (.ld (.s 18) (some 3))⟩,
                              ⟨none, some 20, .p (.mv (.s 1))⟩,
                              ⟨none, some 21, .p (.mv (.s 5))⟩,
                              ⟨none, some 22, .p (.idx (.s 20) (.s 21) none 3)⟩,
                              ⟨none, some 23, .r (.ld (.s 22) (some 3))⟩,
                              ⟨none, some 24, .p (.vf (.eqs true [⟨0, 0⟩, ⟨1, 0⟩, ⟨2, 0⟩]) [.s 19, .s 23])⟩])] (.one .nil))
                          (.cond (.s 24)
                            (.seq
                              (.ops [
                                  (none, [⟨none, some 4, .p (.mv (.c (.bool false)))⟩])] (.one .nil))
                              .ret)
                            .skip))))
                    (.ops [
                        (none, [⟨none, some 25, .p (.bin .add (.s 13) (.c (.int .i64 1)))⟩,
                        ⟨none, some 13, .p (.mv (.s 25))⟩])] (.one .nil))))))))
        (.seq
          (.ops [
              (none, [⟨none, some 4, .p (.mv (.c (.bool true)))⟩])] (.one .nil))
          .ret))))
theorem cfn23 : cfn Try.prog 23 = some ⟨26, 5, d23.erase, [(.s 4, none)]⟩ := by kernel_rfl
theorem ok23 : d23.ok 26 5 = true := by kernel_rfl
noncomputable def F23 (a0 a1 : Value) (H : Heap) (nx : Nat) (k : EP) : Prop :=
  wLen a0 0 H fun t7_1 =>
  wLen a1 0 H fun t9_2 =>
  wBin .neq t7_1 t9_2 fun t10_3 =>
  wIf t10_3 (
    forceV (.bool false) fun tv_4 => k tv_4 H nx) (
    wLen a0 0 H fun t12_5 =>
    wLoop (fun tih_6 tL_7 H1 nx1 =>
      wBin .lss (tL_7.getD 0 undef) t12_5 fun t14_8 =>
      wIf t14_8 (
        forceN (nx1 + 9) fun nx2 =>
        wIdx a0 (tL_7.getD 0 undef) none 3 fun t18_9 =>
        wLd t18_9 (some 3) H1 fun t19_10 =>
        wIdx a1 (tL_7.getD 0 undef) none 3 fun t22_11 =>
        wLd t22_11 (some 3) H1 fun t23_12 =>
        wVf (.eqs true [⟨0, 0⟩, ⟨1, 0⟩, ⟨2, 0⟩]) [t19_10, t23_12] fun t24_13 =>
        (((((wLd t22_11 (some 3) H1 fun tq_15 => tq_15 = t23_12) ∧ True) ∧ (((wLd t18_9 (some 3) H1 fun tq_14 => tq_14 = t19_10) ∧ True) ∧ True))) ∧ (
          wIf t24_13 (
            forceV (.bool false) fun tv_16 => k tv_16 H1 nx2) (
            wBin .add (tL_7.getD 0 undef) (.int .i64 1) fun t25_17 =>
            tih_6 [t25_17] H1 nx2))) ∨ False) (
        forceV (.bool true) fun tv_18 => k tv_18 H1 nx1)) [(.int .i64 0)] H nx)
theorem eq23 (a0 a1 : Value) (H : Heap) (nx : Nat) (k : EP) : wBody Try.prog 26 5 d23 [(.s 4, none)] [a0, a1] H nx k = F23 a0 a1 H nx k := by kernel_rfl
theorem spec23 {a0 a1 : Value} {H : Heap} {nx : Nat} {k : EP} (h : F23 a0 a1 H nx k) : Ans Try.prog 23 [a0, a1] H nx k :=
  spec_of_body mixed namesOK cfn23 ok23 (by simp) ((eq23 a0 a1 H nx k).symm ▸ h)

/-! 6: ordinal/ordinallaw30.EliminationFills -/
def d6 : D :=
  (.seq
    (.ops [
        (none, [⟨none, some 3, .a (.box (.s 0))⟩,
        ⟨none, some 6, .p (.mv (.c (.bool false)))⟩])] (.one .nil))
    (.seq
      (.join [28] [16, 17, 18, 19, 20, 21, 22, 23, 24, 25, 26, 27]
        (.ops [
            (none, [⟨none, some 16, .r (.ld (.s 3) (some 2))⟩,
            ⟨none, some 17, .e (.call (.c (.func (.func 17) ⟨[]⟩ ⟨[]⟩)) [.s 16])⟩,
            ⟨none, some 18, .p (.un .not (.s 17))⟩,
            ⟨none, some 19, .p (.mv (.s 18))⟩]),
            (some (19, false), [⟨none, some 20, .p (.mv (.s 2))⟩,
            ⟨none, some 21, .r (.len (.s 20) 0)⟩,
            ⟨none, some 22, .p (.bin .gtr (.s 21) (.c (.int .i64 20)))⟩]),
            (none, [⟨none, some 23, .p (.pick (.s 19) (.c (.bool true)) (.s 22))⟩,
            ⟨none, some 24, .p (.mv (.s 23))⟩]),
            (some (24, false), [⟨none, some 25, .p (.fld (.s 3) 0)⟩,
            ⟨none, some 26, .r (.ld (.s 25) none)⟩,
            ⟨none, some 27, .p (.bin .eql (.s 26) (.c (.int .i64 0)))⟩]),
            (none, [⟨none, some 28, .p (.pick (.s 24) (.c (.bool true)) (.s 27))⟩])] (.one (.tst (.one (.tst (.one .nil) (.one .nil))) (.one (.one (.one .nil))))))
        (.cond (.s 28)
          (.seq
            (.ops [
                (none, [⟨none, some 29, .e (.call (.c (.func (.func 7) ⟨[]⟩ ⟨[]⟩)) [])⟩,
                ⟨none, some 6, .p (.mv (.s 29))⟩])] (.one .nil))
            .ret)
          .skip))
      (.seq
        (.ops [
            (none, [⟨none, some 30, .p (.mv (.s 1))⟩,
            ⟨none, some 31, .r (.convI .i64 (.s 30))⟩,
            ⟨none, some 32, .p (.fld (.s 3) 0)⟩,
            ⟨none, some 33, .r (.ld (.s 32) none)⟩,
            ⟨none, some 34, .p (.bin .add (.s 33) (.c (.int .i64 1)))⟩,
            ⟨none, some 35, .p (.bin .rem (.s 31) (.s 34))⟩,
            ⟨none, some 7, .p (.mv (.s 35))⟩])] (.one .nil))
        (.seq
          (.ops [
              (none, [⟨none, some 36, .p (.mv (.s 7))⟩,
              ⟨none, some 37, .p (.fld (.s 3) 0)⟩,
              ⟨none, some 38, .r (.ld (.s 37) none)⟩,
              ⟨none, some 39, .p (.mv (.s 2))⟩,
              ⟨none, some 40, .e (.call (.c (.func (.func 21) ⟨[]⟩ ⟨[]⟩)) [.s 36, .s 38, .s 39])⟩,
              ⟨none, some 8, .p (.mv (.s 40))⟩])] (.one .nil))
          (.seq
            (.ops [
                (none, [⟨none, some 42, .r (.ld (.s 3) (some 2))⟩,
                ⟨none, some 43, .p (.mv (.s 7))⟩,
                ⟨none, some 44, .p (.mv (.s 8))⟩,
                ⟨none, some 45, .e (.call (.c (.func (.func 13) ⟨[]⟩ ⟨[]⟩)) [.s 42, .s 43, .s 44])⟩,
                ⟨none, some 41, .p (.mv (.s 45))⟩,
                ⟨none, some 46, .p (.ext (.s 41) 0)⟩,
                ⟨none, some 47, .p (.ext (.s 41) 1)⟩,
                ⟨none, some 9, .p (.mv (.s 46))⟩,
                ⟨none, some 10, .p (.mv (.s 47))⟩])] (.one .nil))
            (.seq
              (.ops [
                  (none, [⟨none, some 48, .p (.fld (.s 3) 0)⟩,
                  ⟨none, some 49, .r (.ld (.s 48) none)⟩,
                  ⟨none, some 50, .p (.build [.int .i64 0, .slice none 0 0] [(0, 1), (1, 1)] [(0, .s 49)])⟩,
                  ⟨none, some 11, .a (.alloc [.int .i64 0, .slice none 0 0])⟩,
                  ⟨none, none, .e (.st (.s 11) (.s 50) 2)⟩])] (.one .nil))
              (.seq
                (.seq
                  (.ops [
                      (none, [⟨none, some 51, .p (.mv (.s 9))⟩,
                      ⟨none, some 52, .r (.len (.s 51) 0)⟩,
                      ⟨none, some 53, .p (.mv (.c (.int .i64 0)))⟩])] (.one .nil))
                  (.block 0
                    (.loop [53] [13, 54, 55, 56, 57, 58, 59, 60, 61, 62, 63, 64]
                      (.seq
                        (.ops [
                            (none, [⟨none, some 54, .p (.bin .lss (.s 53) (.s 52))⟩])] (.one .nil))
                        (.seq
                          (.cond (.s 54)
                            .skip
                            (.exit 0))
                          (.seq
                            (.block 1
                              (.seq
                                (.ops [
                                    (none, [⟨none, some 55, .p (.idx (.s 51) (.s 53) none 3)⟩,
                                    ⟨none, some 56, .r (.ld (.s 55) (some 3))⟩,
                                    ⟨none, some 13, .a (.alloc [.int .i64 0, .int .u32 0, .int .i64 0])⟩,
                                    ⟨none, none, .e (.st (.s 13) (.s 56) 3)⟩])] (.one .nil))
                                (.draw [0, 1, 0, 4, 12, 31, 63, 127] [
                                    (none, [⟨none, some 57, .p (.fld (.s 11) 1)⟩,
                                    ⟨none, some 58, .r (.ld (.s 57) none)⟩,
                                    ⟨none, some 59, .r (.ld (.s 13) (some 3))⟩,
                                    ⟨none, some 60, .e (.call (.c (.func (.func 20) ⟨[]⟩ ⟨[]⟩)) [.s 59])⟩,
                                    ⟨none, some 61, .a (.bsl 1 1 [.int .u32 0] [(0, .s 60)])⟩,
                                    ⟨none, some 62, .e (.app (.s 58) (.s 61) 1 4)⟩,
                                    ⟨none, some 63, .p (.fld (.s 11) 1)⟩,
                                    ⟨none, none, .e (.st (.s 63) (.s 62) 1)⟩])] (.one .nil))))
                            (.ops [
                                (none, [⟨none, some 64, .p (.bin .add (.s 53) (.c (.int .i64 1)))⟩,
                                ⟨none, some 53, .p (.mv (.s 64))⟩])] (.one .nil))))))))
                (.seq
                  (.ops [
                      (none, [⟨none, some 66, .r (.ld (.s 11) (some 2))⟩,
                      ⟨none, some 67, .p (.mv (.s 7))⟩,
                      ⟨none, some 68, .p (.mv (.s 8))⟩,
                      ⟨none, some 69, .e (.call (.c (.func (.func 13) ⟨[]⟩ ⟨[]⟩)) [.s 66, .s 67, .s 68])⟩,
                      ⟨none, some 65, .p (.mv (.s 69))⟩,
                      ⟨none, some 70, .p (.ext (.s 65) 0)⟩,
                      ⟨none, some 71, .p (.ext (.s 65) 1)⟩,
                      ⟨none, some 14, .p (.mv (.s 70))⟩,
                      ⟨none, some 15, .p (.mv (.s 71))⟩])] (.one .nil))
                  (.seq
                    (.ops [
                        (none, [⟨none, some 72, .e (.call (.c (.func (.func 7) ⟨[]⟩ ⟨[]⟩)) [])⟩,
                        ⟨none, some 73, .p (.mv (.s 72))⟩]),
                        (some (73, true), [⟨none, some 74, .p (.mv (.s 10))⟩,
                        ⟨none, some 75, .p (.bin .eql (.s 74) (.c (.int .i64 0)))⟩]),
                        (none, [⟨none, some 76, .p (.pick (.s 73) (.s 75) (.c (.bool false)))⟩,
                        ⟨none, some 77, .p (.mv (.s 76))⟩]),
                        (some (77, true), [⟨none, some 78, .p (.mv (.s 15))⟩,
                        ⟨none, some 79, .p (.bin .eql (.s 78) (.c (.int .i64 0)))⟩]),
                        (none, [⟨none, some 80, .p (.pick (.s 77) (.s 79) (.c (.bool false)))⟩,
                        ⟨none, some 81, .p (.mv (.s 80))⟩]),
                        (some (81, true), [⟨none, some 82, .r (.ld (.s 11) (some 2))⟩,
                        ⟨none, some 83, .e (.call (.c (.func (.func 22) ⟨[]⟩ ⟨[]⟩)) [.s 82])⟩]),
                        (none, [⟨none, some 84, .p (.pick (.s 81) (.s 83) (.c (.bool false)))⟩,
                        ⟨none, some 85, .p (.mv (.s 84))⟩]),
                        (some (85, true), [⟨none, some 86, .p (.mv (.s 9))⟩,
                        ⟨none, some 87, .p (.mv (.s 14))⟩,
                        ⟨none, some 88, .e (.call (.c (.func (.func 23) ⟨[]⟩ ⟨[]⟩)) [.s 86, .s 87])⟩]),
                        (none, [⟨none, some 89, .p (.pick (.s 85) (.s 88) (.c (.bool false)))⟩,
                        ⟨none, some 90, .p (.mv (.s 89))⟩]),
                        (some (90, true), [⟨none, some 91, .r (.ld (.s 11) (some 2))⟩,
                        ⟨none, some 92, .p (.mv (.s 7))⟩,
                        ⟨none, some 93, .p (.mv (.s 9))⟩,
                        ⟨none, some 94, .e (.call (.c (.func (.func 8) ⟨[]⟩ ⟨[]⟩)) [.s 91, .s 92, .s 93])⟩,
                        ⟨none, some 95, .p (.bin .eql (.s 94) (.c (.int .i64 0)))⟩]),
                        (none, [⟨none, some 96, .p (.pick (.s 90) (.s 95) (.c (.bool false)))⟩,
                        ⟨none, some 6, .p (.mv (.s 96))⟩])] (.one (.tst (.one (.tst (.one (.tst (.one (.tst (.one (.tst (.one .nil) (.one .nil))) (.one (.one (.one .nil))))) (.one (.one (.one (.one (.one .nil))))))) (.one (.one (.one (.one (.one (.one (.one .nil))))))))) (.one (.one (.one (.one (.one (.one (.one (.one (.one .nil))))))))))))
                    .ret)))))))))
theorem cfn6 : cfn Try.prog 6 = some ⟨97, 7, d6.erase, [(.s 6, none)]⟩ := by kernel_rfl
theorem ok6 : d6.ok 97 7 = true := by kernel_rfl
noncomputable def F6 (a0 a1 a2 : Value) (H : Heap) (nx : Nat) (k : EP) : Prop :=
  dBox a0 fun tc_1 => wNew (.cells tc_1 0) .ptr H nx fun t3_2 H1 nx1 =>
  wJoin (fun tj_3 =>
    wLd t3_2 (some 2) H1 fun t16_5 =>
    wCall Try.prog 17 [t16_5] H1 nx1 fun t17_6 H3 nx3 =>
    wUn .not t17_6 fun t18_7 =>
    wGuard false t18_7 (
      wLen a2 0 H3 fun t21_8 =>
      wBin .gtr t21_8 (.int .i64 20) fun t22_9 =>
      wGuard false t22_9 (
        wFld t3_2 0 fun t25_10 =>
        wLd t25_10 none H3 fun t26_11 =>
        wBin .eql t26_11 (.int .i64 0) fun t27_12 =>
        tj_3 [t27_12] H3 nx3) (
        tj_3 [(.bool true)] H3 nx3)) (
        tj_3 [(.bool true)] H3 nx3)) (fun tL_4 H2 nx2 =>
    wIf (tL_4.getD 0 undef) (
      wCall Try.prog 7 [] H2 nx2 fun t29_13 H4 nx4 =>
      forceV t29_13 fun tv_14 => k tv_14 H4 nx4) (
      wConv .i64 a1 fun t31_15 =>
      wFld t3_2 0 fun t32_16 =>
      wLd t32_16 none H2 fun t33_17 =>
      wBin .add t33_17 (.int .i64 1) fun t34_18 =>
      wBin .rem t31_15 t34_18 fun t35_19 =>
      wFld t3_2 0 fun t37_20 =>
      wLd t37_20 none H2 fun t38_21 =>
      wCall Try.prog 21 [t35_19, t38_21, a2] H2 nx2 fun t40_22 H5 nx5 =>
      wLd t3_2 (some 2) H5 fun t42_23 =>
      wCall Try.prog 13 [t42_23, t35_19, t40_22] H5 nx5 fun t45_24 H6 nx6 =>
      wExt t45_24 0 fun t46_25 =>
      wExt t45_24 1 fun t47_26 =>
      wFld t3_2 0 fun t48_27 =>
      wLd t48_27 none H6 fun t49_28 =>
      wBuild [.int .i64 0, .slice none 0 0] [(0, 1), (1, 1)] [(0, t49_28)] fun t50_29 =>
      wNew (.cells [.int .i64 0, .slice none 0 0] 0) .ptr H6 nx6 fun t11_30 H7 nx7 =>
      wSt t11_30 t50_29 2 H7 fun H8 =>
      wLen t46_25 0 H8 fun t52_31 =>
      wLoop (fun tih_32 tL_33 H9 nx9 =>
        wBin .lss (tL_33.getD 0 undef) t52_31 fun t54_34 =>
        wIf t54_34 (
          wIdx t46_25 (tL_33.getD 0 undef) none 3 fun t55_35 =>
          wLd t55_35 (some 3) H9 fun t56_36 =>
          wNew (.cells [.int .i64 0, .int .u32 0, .int .i64 0] 0) .ptr H9 nx9 fun t13_37 H10 nx10 =>
          wSt t13_37 t56_36 3 H10 fun H11 =>
          forceN (nx10 + 8) fun nx12 =>
          wFld t11_30 1 fun t57_38 =>
          wLd t57_38 none H11 fun t58_39 =>
          wLd t13_37 (some 3) H11 fun t59_40 =>
          wCall Try.prog 20 [t59_40] H11 nx12 fun t60_41 H13 nx13 =>
          dBsl 1 1 [.int .u32 0] [(0, t60_41)] fun tc_43 => wNm nx10 4 (.slice 1 1) fun t61_42 =>
          hsK H13 (nx10 + 4) (some (.cells tc_43 0)) fun H14 => wApp t58_39 t61_42 1 4 H14 nx13 fun t62_44 H15 nx15 =>
          wFld t11_30 1 fun t63_45 =>
          wSt t63_45 t62_44 1 H15 fun H16 =>
          (((((True) ∧ ((True) ∧ ((True) ∧ ((wLd t13_37 (some 3) H11 fun tq_48 => tq_48 = t59_40) ∧ True)))) ∧ (((True) ∧ ((True) ∧ ((wLd t57_38 none H13 fun tq_46 => tq_46 = t58_39) ∧ ((wLd t57_38 none H11 fun tq_47 => tq_47 = t58_39) ∧ True)))) ∧ True))) ∧ (
            wBin .add (tL_33.getD 0 undef) (.int .i64 1) fun t64_49 =>
            tih_32 [t64_49] H16 nx15)) ∨ False) (
          wLd t11_30 (some 2) H9 fun t66_50 =>
          wCall Try.prog 13 [t66_50, t35_19, t40_22] H9 nx9 fun t69_51 H17 nx17 =>
          wExt t69_51 0 fun t70_52 =>
          wExt t69_51 1 fun t71_53 =>
          wCall Try.prog 7 [] H17 nx17 fun t72_54 H18 nx18 =>
          wGuard true t72_54 (
            wBin .eql t47_26 (.int .i64 0) fun t75_55 =>
            wGuard true t75_55 (
              wBin .eql t71_53 (.int .i64 0) fun t79_56 =>
              wGuard true t79_56 (
                wLd t11_30 (some 2) H18 fun t82_57 =>
                wCall Try.prog 22 [t82_57] H18 nx18 fun t83_58 H19 nx19 =>
                wGuard true t83_58 (
                  wCall Try.prog 23 [t46_25, t70_52] H19 nx19 fun t88_59 H20 nx20 =>
                  wGuard true t88_59 (
                    wLd t11_30 (some 2) H20 fun t91_60 =>
                    wCall Try.prog 8 [t91_60, t35_19, t46_25] H20 nx20 fun t94_61 H21 nx21 =>
                    wBin .eql t94_61 (.int .i64 0) fun t95_62 =>
                    forceV t95_62 fun tv_63 => k tv_63 H21 nx21) (
                    forceV (.bool false) fun tv_64 => k tv_64 H20 nx20)) (
                    forceV (.bool false) fun tv_65 => k tv_65 H19 nx19)) (
                    forceV (.bool false) fun tv_66 => k tv_66 H18 nx18)) (
                    forceV (.bool false) fun tv_67 => k tv_67 H18 nx18)) (
                    forceV (.bool false) fun tv_68 => k tv_68 H18 nx18))) [(.int .i64 0)] H8 nx7))
theorem eq6 (a0 a1 a2 : Value) (H : Heap) (nx : Nat) (k : EP) : wBody Try.prog 97 7 d6 [(.s 6, none)] [a0, a1, a2] H nx k = F6 a0 a1 a2 H nx k := by kernel_rfl
theorem spec6 {a0 a1 a2 : Value} {H : Heap} {nx : Nat} {k : EP} (h : F6 a0 a1 a2 H nx k) : Ans Try.prog 6 [a0, a1, a2] H nx k :=
  spec_of_body mixed namesOK cfn6 ok6 (by simp) ((eq6 a0 a1 a2 H nx k).symm ▸ h)

end Go.Proofs.Ytaieijjfabbfeaa

set_option linter.unusedSimpArgs false
set_option linter.unusedVariables false
set_option linter.unusedSectionVars false
namespace Go.Proofs.Ytaieijjfabbfeaa
open Go.Clo

theorem equal23 (A B : Option Addr) (bs : List Bag) (capA capB : Nat) (H : Heap) (nx : Nat) (hA : Sl H nx A (bagsC bs)) (hB : Sl H nx B (bagsC bs)) (hl : bs.length ≤ 40) :
    Ans Try.prog 23 [.slice A bs.length capA, .slice B bs.length capB] H nx fun r H' nx' => r = .bool true ∧ Ext H nx H' nx' := by
  refine spec23 ?_
  unfold F23
  have d0 : decide ((bs.length : Int) ≠ (bs.length : Int)) = false := by simp
  simp (disch := first | omega | assumption | exact shr_lt (by assumption) | exact ndiff32 (by assumption) | exact below_lt (by omega) | fail) only [wBin_neq, wIf_bool, wLen_slice, forceV_eq, forceN_eq, if_false, Bool.false_eq_true, and_true, true_and, or_false, d0]
  refine wLoop_rule (m := bs.length) (fun m L H' nx' => ∃ i : Nat, m + i = bs.length ∧ L = [.int .i64 (i : Int)] ∧ H = H' ∧ nx ≤ nx') ?_ ⟨0, rfl, rfl, rfl, Nat.le_refl _⟩
  rintro m ih L _ nx1 ⟨i, hm, rfl, rfl, hle⟩ hih
  simp (disch := first | omega | assumption | exact shr_lt (by assumption) | exact ndiff32 (by assumption) | exact below_lt (by omega) | fail) only [List.getD_cons_zero, wBin_lss, wIf_bool, wBin_add64]
  by_cases hi : i < bs.length
  · have hi' : (i : Int) < (bs.length : Int) := by omega
    obtain ⟨b, hb⟩ : ∃ b, bs[i]? = some b := ⟨_, List.getElem?_eq_getElem hi⟩
    obtain ⟨A, o, row, rfl, _, hrow, hget⟩ := hA.open (i := i * 3) (by rw [bagsC_length]; omega)
    have hg := fun j v hv => hget _ v (bagsC_get hb j v hv)
    have g0 : row[o + i * 3]? = some (.int .i64 b.var) := hg 0 _ rfl
    have g1 : row[o + i * 3 + 1]? = some (.int .u32 (b.key : Int)) := hg 1 _ rfl
    have g2 : row[o + i * 3 + 2]? = some (.int .i64 b.par) := hg 2 _ rfl
    obtain ⟨B, o2, row2, rfl, _, hrow2, hget2⟩ := hB.open (i := i * 3) (by rw [bagsC_length]; omega)
    have hg2 := fun j v hv => hget2 _ v (bagsC_get hb j v hv)
    have k0 : row2[o2 + i * 3]? = some (.int .i64 b.var) := hg2 0 _ rfl
    have k1 : row2[o2 + i * 3 + 1]? = some (.int .u32 (b.key : Int)) := hg2 1 _ rfl
    have k2 : row2[o2 + i * 3 + 2]? = some (.int .i64 b.par) := hg2 2 _ rfl
    have heq := eqs_same b
    simp only [bagV, bagC] at heq
    simp (disch := first | omega | assumption | exact shr_lt (by assumption) | exact ndiff32 (by assumption) | exact below_lt (by omega) | fail) only [wIf_bool, wLd_3, decide_true, if_true, if_false, Bool.false_eq_true, true_and, wIdx_slice, Int.toNat_natCast, hi', ldP_row hrow, ldP_row hrow2, cellP_3 g0 g1 g2, cellP_3 k0 k1 k2, heq]
    exact hih (m - 1) _ _ _ (by omega) ⟨i + 1, by omega, by simp, rfl, by omega⟩
  · have hi' : ¬ (i : Int) < (bs.length : Int) := by omega
    simp (disch := first | omega | assumption | exact shr_lt (by assumption) | exact ndiff32 (by assumption) | exact below_lt (by omega) | fail) only [decide_false, if_false, Bool.false_eq_true, hi']
    exact Ext.self hle

theorem nonzero40 {e : Nat} (H : Heap) (nx : Nat) : Ans Try.prog 40 [.int .u32 (e : Int)] H nx fun v H' nx' => v = .bool (decide (e ≠ 0)) ∧ H = H' ∧ nx = nx' := by
  refine spec40 ?_
  unfold F40
  simp (disch := first | omega | assumption | exact shr_lt (by assumption) | exact ndiff32 (by assumption) | exact below_lt (by omega) | fail) only [wBin_neq, forceV_eq, and_true, and_self, u32_ne_zero]

/-- Some edge is not empty. -/
theorem some56 (A : Option Addr) (es : List Nat) (cap : Nat) (H : Heap) (nx : Nat) (hS : Sl H nx A (u32s es)) (hl : es.length ≤ 64) :
    Ans Try.prog 56 [.slice A es.length cap, .func (.func 40) ⟨[]⟩ ⟨[]⟩] H nx fun v H' nx' => (∃ i : Int, v = .int .i64 i ∧ (0 ≤ i ↔ ∃ e ∈ es, e ≠ 0)) ∧ H = H' ∧ nx = nx' := by
  refine spec56 ?_
  unfold F56
  simp (disch := first | omega | assumption | exact shr_lt (by assumption) | exact ndiff32 (by assumption) | exact below_lt (by omega) | fail) only [wLen_slice, forceV_eq]
  refine wLoop_rule (m := es.length) (fun m L H' nx' => ∃ i : Nat, m + i = es.length ∧ L = [.int .i64 (i : Int)] ∧ (∀ e ∈ es.take i, e = 0) ∧ H = H' ∧ nx = nx') ?_ ⟨0, rfl, rfl, by simp, rfl, rfl⟩
  rintro m ih L _ _ ⟨i, hm, rfl, hst, rfl, rfl⟩ hih
  simp (disch := first | omega | assumption | exact shr_lt (by assumption) | exact ndiff32 (by assumption) | exact below_lt (by omega) | fail) only [List.getD_cons_zero, wBin_lss, wIf_bool, and_true, and_self, wBin_add64]
  by_cases hi : i < es.length
  · have hi' : (i : Int) < (es.length : Int) := by omega
    obtain ⟨e, he⟩ : ∃ e, es[i]? = some e := ⟨_, List.getElem?_eq_getElem hi⟩
    obtain ⟨A, o, row, rfl, _, hrow, hget⟩ := hS.open (i := i) (by rw [u32s_length]; omega)
    simp (disch := first | omega | assumption | exact shr_lt (by assumption) | exact ndiff32 (by assumption) | exact below_lt (by omega) | fail) only [wLd_none, cellP_one, Option.elim_some, decide_true, if_true, wIdx_slice, Int.toNat_natCast, Nat.mul_one, hi', ldP_row hrow, hget _ _ (u32s_get he)]
    refine wCallV_rule (nonzero40 _ _) ?_
    rintro _ _ _ ⟨rfl, rfl, rfl⟩
    by_cases h0 : e = 0
    · have d : decide (e ≠ 0) = false := by simp [h0]
      simp (disch := first | omega | assumption | exact shr_lt (by assumption) | exact ndiff32 (by assumption) | exact below_lt (by omega) | fail) only [wIf_bool, if_false, Bool.false_eq_true, and_true, and_self, d]
      refine hih (m - 1) _ _ _ (by omega) ⟨i + 1, by omega, by simp, fun x hx => ?_, rfl, rfl⟩
      rw [take_next he] at hx
      simp only [List.mem_append, List.mem_singleton] at hx
      rcases hx with hx | rfl
      · exact hst x hx
      · exact h0
    · have d : decide (e ≠ 0) = true := by simp [h0]
      simp (disch := first | omega | assumption | exact shr_lt (by assumption) | exact ndiff32 (by assumption) | exact below_lt (by omega) | fail) only [wIf_bool, if_true, and_true, and_self, d]
      exact ⟨i, rfl, fun _ => ⟨e, List.mem_of_getElem? he, h0⟩, fun _ => by omega⟩
  · have hi' : ¬ (i : Int) < (es.length : Int) := by omega
    simp (disch := first | omega | assumption | exact shr_lt (by assumption) | exact ndiff32 (by assumption) | exact below_lt (by omega) | fail) only [decide_false, if_false, Bool.false_eq_true, hi']
    rw [take_all hi] at hst
    exact ⟨-1, rfl, fun h => by omega, fun ⟨e, he, h0⟩ => absurd (hst e he) h0⟩
theorem some39 (A : Option Addr) (es : List Nat) (cap : Nat) (H : Heap) (nx : Nat) (hS : Sl H nx A (u32s es)) (hl : es.length ≤ 64) :
    Ans Try.prog 39 [.slice A es.length cap, .func (.func 40) ⟨[]⟩ ⟨[]⟩] H nx fun v H' nx' => (∃ c : Bool, v = .bool c ∧ (c = true ↔ ∃ e ∈ es, e ≠ 0)) ∧ H = H' ∧ nx = nx' := by
  refine spec39 ?_
  unfold F39
  refine wCall_rule (some56 A es cap H nx hS hl) ?_
  rintro _ _ _ ⟨⟨i, rfl, hi⟩, rfl, rfl⟩
  simp (disch := first | omega | assumption | exact shr_lt (by assumption) | exact ndiff32 (by assumption) | exact below_lt (by omega) | fail) only [wBin_geq, forceV_eq, and_true, and_self]
  exact ⟨_, rfl, by rw [← hi, decide_eq_true_eq]⟩
end Go.Proofs.Ytaieijjfabbfeaa
