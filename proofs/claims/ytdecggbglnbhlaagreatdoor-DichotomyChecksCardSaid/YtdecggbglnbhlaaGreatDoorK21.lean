/-
  Plain elimination; the program's Bags (texts of chapter 30, by name).
-/
import Derived.Test.YtdecggbglnbhlaaGreatDoorK17
import Derived.Test.YtdecggbglnbhlaaGreatDoorK20
set_option linter.unusedSimpArgs false
set_option linter.unusedVariables false
set_option linter.unusedSectionVars false
namespace Go.Proofs.YtdecggbglnbhlaaGreatDoor
open Go.Clo
theorem maskOf_congr {p q : Nat → Bool} {n : Nat} (h : ∀ w, w < n → p w = q w) : maskOf p n = maskOf q n := by
  apply Nat.eq_of_testBit_eq
  intro i
  rw [maskOf_bit, maskOf_bit]
  by_cases hi : i < n
  · rw [h i hi]
  · simp [hi]
theorem maskOf_or {p : Nat → Bool} {n b : Nat} (hb : b < n) : maskOf p n ||| 2 ^ b = maskOf (fun w => p w || decide (w = b)) n := by
  apply Nat.eq_of_testBit_eq
  intro i
  rw [Nat.testBit_or, maskOf_bit, maskOf_bit, Nat.testBit_two_pow]
  by_cases hi : i = b
  · subst hi; simp [hb]
  · have h1 : decide (b = i) = false := by simp; omega
    simp [hi, h1]
theorem maskOf_add {p : Nat → Bool} {b : Nat} (h : p b = false) : ∀ {n : Nat}, b < n → maskOf p n + 2 ^ b = maskOf (fun w => p w || decide (w = b)) n
  | 0, hb => by omega
  | n + 1, hb => by
    by_cases hbn : b = n
    · subst hbn
      have e : maskOf p b = maskOf (fun w => p w || decide (w = b)) b := maskOf_congr fun w hw => by
        have : decide (w = b) = false := by simp; omega
        simp [this]
      simp [maskOf, h, e]
    · have ih := maskOf_add (p := p) (b := b) h (n := n) (by omega)
      have hd : decide (n = b) = false := by simp; omega
      simp only [maskOf, hd, Bool.or_false]
      split <;> omega

abbrev Nb := Nat → Nat → Bool
/-- The later neighbors of v. -/
def keyB (N : Nb) (v : Nat) (rest : List Nat) (w : Nat) : Bool := N v w && decide (w ∈ rest)
def stepN (N : Nb) (v : Nat) (rest : List Nat) : Nb := fun a b => N a b || (decide (a ≠ b) && (keyB N v rest a && keyB N v rest b))
def parB (N : Nb) (v : Nat) (rest : List Nat) : Int := match rest.find? (N v) with
  | some w => (w : Int)
  | none => -1
def bagOf (n : Nat) (N : Nb) (v : Nat) (rest : List Nat) : Bag := ⟨v, maskOf (keyB N v rest) n, parB N v rest⟩
def outs (n : Nat) : List Bag → Nb → List Nat → List Bag
  | out, _, [] => out
  | out, N, v :: rest => outs n (out.set v (bagOf n N v rest)) (stepN N v rest) rest

theorem key_cons {N : Nb} {v x n : Nat} {rest : List Nat} (hx : x < n) (hr : x ∉ rest) : maskOf (keyB N v (x :: rest)) n = if N v x then maskOf (keyB N v rest) n + 2 ^ x else maskOf (keyB N v rest) n := by
  split
  · rename_i h
    rw [maskOf_add (by simp [keyB, hr]) hx]
    refine maskOf_congr fun w _ => ?_
    simp only [keyB, List.mem_cons]
    by_cases hw : w = x
    · subst hw; simp [h]
    · simp [hw]
  · rename_i h
    refine maskOf_congr fun w _ => ?_
    simp only [keyB, List.mem_cons]
    by_cases hw : w = x
    · subst hw; simp [h]
    · simp [hw]
theorem par_cons {N : Nb} {v x : Nat} {rest : List Nat} : parB N v (x :: rest) = if N v x then (x : Int) else parB N v rest := by
  unfold parB
  rw [List.find?_cons]
  cases N v x <;> simp
theorem outs_len (n : Nat) : ∀ (order : List Nat) (out : List Bag) (N : Nb), (outs n out N order).length = out.length
  | [], _, _ => rfl
  | v :: rest, out, N => by rw [outs, outs_len n rest]; simp
theorem maskOf32 {n : Nat} (hn : n ≤ 32) (p : Nat → Bool) : maskOf p n < 4294967296 :=
  Nat.lt_of_lt_of_le (maskOf_lt p n) (Nat.le_trans (Nat.pow_le_pow_right (by omega) hn) (by decide))
theorem dMsl_eq {n : Nat} (hn : n ≤ 1000000) (z : List Value) (k : List Value → Nat → Nat → Prop) : dMsl (.int .i64 (n : Int)) (.int .i64 (n : Int)) z k = k (repeatA z n) n n := by
  show cond (Nat.ble n n && Nat.ble n 1000000) (spine (repeatA z n) fun cs => k cs n n) False = _
  rw [bltrue (Nat.le_refl n), bltrue hn, spine_eq]; rfl
theorem repeat_u32 : ∀ n : Nat, repeatA [.int .u32 0] n = u32s (List.replicate n 0)
  | 0 => rfl
  | n + 1 => by rw [repeatA, repeat_u32 n]; rfl
def zeroBag : Bag := ⟨0, 0, 0⟩
theorem repeat_bag : ∀ n : Nat, repeatA [.int .i64 0, .int .u32 0, .int .i64 0] n = bagsC (List.replicate n zeroBag)
  | 0 => rfl
  | n + 1 => by rw [repeatA, repeat_bag n]; rfl
theorem bagsC_set {b : Bag} : ∀ {bs : List Bag} {v : Nat}, v < bs.length → putL (bagsC bs) (v * 3) (bagC b) = bagsC (bs.set v b)
  | [], v, h => by simp at h
  | c :: bs, 0, h => by simp [bagsC, putL, bagC]
  | c :: bs, v + 1, h => by
    have ih := bagsC_set (b := b) (bs := bs) (v := v) (by simpa using h)
    have e1 : bagsC (c :: bs) = bagC c ++ bagsC bs := rfl
    have e2 : bagsC ((c :: bs).set (v + 1) b) = bagC c ++ bagsC (bs.set v b) := rfl
    have e3 : (v + 1) * 3 = 3 + v * 3 := by omega
    rw [e1, e2, ← ih, e3]
    unfold putL
    have hc : (bagC c).length = 3 := rfl
    rw [List.take_append, List.drop_append, hc, List.take_of_length_le (by rw [hc]; omega), List.drop_eq_nil_of_le (by rw [hc]; omega)]
    have a1 : 3 + v * 3 - 3 = v * 3 := by omega
    have a2 : 3 + v * 3 + (bagC b).length - 3 = v * 3 + (bagC b).length := by omega
    rw [a1, a2]
    simp

theorem key_nil (N : Nb) (v n : Nat) : maskOf (keyB N v []) n = 0 := by
  apply Nat.eq_of_testBit_eq; intro i; rw [maskOf_bit]; simp [keyB]

theorem drop_get {α : Type} {l : List α} {i : Nat} {x : α} (h : l[i]? = some x) : l.drop i = x :: l.drop (i + 1) := by
  have hi := lt_len h
  rw [List.drop_eq_getElem_cons hi]
  congr 1
  exact (List.getElem?_eq_some_iff.mp h).2
theorem not_mem_drop {l : List Nat} {i x : Nat} (hnd : l.Nodup) (h : l[i]? = some x) : x ∉ l.drop (i + 1) := by
  have h1 : (l.drop i).Nodup := hnd.sublist (List.drop_sublist _ _)
  rw [drop_get h] at h1
  exact (List.nodup_cons.mp h1).1

structure NbOK (N : Nb) : Prop where
  symm : ∀ a b, N a b = N b a
  irr : ∀ a, N a a = false
theorem adj_ok (es : List Nat) : NbOK (adj es) := ⟨adj_symm es, adj_self es⟩
theorem step_ok {N : Nb} (h : NbOK N) (v : Nat) (rest : List Nat) : NbOK (stepN N v rest) := by
  refine ⟨fun a b => ?_, fun a => ?_⟩
  · unfold stepN
    rw [h.symm a b, Bool.and_comm (keyB N v rest a)]
    have : decide (a ≠ b) = decide (b ≠ a) := by congr 1; apply propext; exact ne_comm
    rw [this]
  · simp [stepN, h.irr]

theorem key_self {N : Nb} (h : NbOK N) (v n : Nat) (rest : List Nat) : maskOf (keyB N v (v :: rest)) n = maskOf (keyB N v rest) n :=
  maskOf_congr fun w _ => by
    unfold keyB
    by_cases hw : w = v
    · subst hw; simp [h.irr]
    · simp [hw]
theorem nb_skip {N : Nb} (h : NbOK N) {v u n : Nat} {rest : List Nat} (hu : u ∈ rest) (hk : keyB N v rest u = false) : maskOf (keyB N u (v :: rest)) n = maskOf (keyB (stepN N v rest) u rest) n :=
  maskOf_congr fun w _ => by
    have hvu : N v u = false := by simpa [keyB, hu] using hk
    have huv : N u v = false := by rw [h.symm]; exact hvu
    simp only [keyB, stepN, hvu, List.mem_cons, Bool.false_and, Bool.and_false, Bool.or_false]
    by_cases hw : w = v
    · subst hw; simp [huv]
    · simp [hw]
theorem nb_step {N : Nb} (h : NbOK N) {v u n : Nat} {rest : List Nat} (hvr : v ∉ rest) (hk : keyB N v rest u = true) :
    ndiff (maskOf (keyB N u (v :: rest)) n ||| maskOf (keyB N v rest) n) (2 ^ u ||| 2 ^ v) = maskOf (keyB (stepN N v rest) u rest) n := by
  apply Nat.eq_of_testBit_eq
  intro w
  rw [ndiff_bit, Nat.testBit_or, Nat.testBit_or, maskOf_bit, maskOf_bit, maskOf_bit, Nat.testBit_two_pow, Nat.testBit_two_pow]
  have hk1 := hk
  simp only [keyB, Bool.and_eq_true, decide_eq_true_eq] at hk1
  by_cases hwn : w < n
  · simp only [hwn, decide_true, Bool.true_and]
    by_cases hwu : w = u
    · subst hwu
      simp [keyB, stepN, h.irr]
    · have e1 : decide (u = w) = false := by simp; omega
      have e3 : decide (u ≠ w) = true := by simp; omega
      by_cases hwv : w = v
      · subst hwv
        simp [keyB, hvr]
      · have e2 : decide (v = w) = false := by simp; omega
        simp only [e1, e2, Bool.or_false, Bool.not_false, Bool.and_true]
        simp only [keyB, stepN, e3, List.mem_cons, hwv, false_or, Bool.true_and]
        have : (N v u && decide (u ∈ rest)) = true := hk
        rw [this, Bool.true_and]
        cases decide (w ∈ rest) <;> simp
  · simp [hwn]

/-- The parent, found so far. -/
def ParI (N : Nb) (v : Nat) (order rest : List Nat) (u : Nat) (par : Int) : Prop :=
  (par = -1 ∧ ∀ w, w < u → keyB N v rest w = false) ∨ ∃ p jp : Nat, par = p ∧ order[jp]? = some p ∧ keyB N v rest p = true ∧ ∀ w jw : Nat, w < u → order[jw]? = some w → keyB N v rest w = true → jp ≤ jw

theorem nodup_at {l : List Nat} (h : l.Nodup) {i j x : Nat} (hi : l[i]? = some x) (hj : l[j]? = some x) : i = j := by
  rcases Nat.lt_trichotomy i j with hl | he | hg
  · have := (List.pairwise_iff_getElem.mp h) i j (lt_len hi) (lt_len hj) hl
    exact absurd (by rw [(List.getElem?_eq_some_iff.mp hi).2, (List.getElem?_eq_some_iff.mp hj).2]) this
  · exact he
  · have := (List.pairwise_iff_getElem.mp h) j i (lt_len hj) (lt_len hi) hg
    exact absurd (by rw [(List.getElem?_eq_some_iff.mp hi).2, (List.getElem?_eq_some_iff.mp hj).2]) this
theorem par_min {N : Nb} {v n i : Nat} {order : List Nat} {par : Int} (hnd : order.Nodup) (hlt : ∀ w ∈ order, w < n) (h : ParI N v order (order.drop (i + 1)) n par) : par = parB N v (order.drop (i + 1)) := by
  unfold parB
  cases hf : (order.drop (i + 1)).find? (N v) with
  | none =>
    rw [List.find?_eq_none] at hf
    rcases h with ⟨h, _⟩ | ⟨p, jp, _, _, hk, _⟩
    · exact h
    · simp only [keyB, Bool.and_eq_true, decide_eq_true_eq] at hk
      exact absurd hk.1 (hf p hk.2)
  | some w0 =>
    obtain ⟨hw0, t, ht, hte, hbefore⟩ := List.find?_eq_some_iff_getElem.mp hf
    have h0 : order[i + 1 + t]? = some w0 := by
      rw [← hte, ← List.getElem?_drop]; exact List.getElem?_eq_getElem ht
    have hmem : w0 ∈ order.drop (i + 1) := hte ▸ List.getElem_mem ht
    have hk0 : keyB N v (order.drop (i + 1)) w0 = true := by simp [keyB, hw0, hmem]
    have hw0n := hlt w0 (List.mem_of_mem_drop hmem)
    rcases h with ⟨_, h⟩ | ⟨p, jp, rfl, hjp, hk, hmin⟩
    · rw [h w0 hw0n] at hk0; cases hk0
    · have hle := hmin w0 _ hw0n h0 hk0
      simp only [keyB, Bool.and_eq_true, decide_eq_true_eq] at hk
      obtain ⟨s, hs, hse⟩ := List.getElem_of_mem hk.2
      have hps : order[i + 1 + s]? = some p := by
        rw [← hse, ← List.getElem?_drop]; exact List.getElem?_eq_getElem hs
      have hj := nodup_at hnd hjp hps
      by_cases hst : s < t
      · have := hbefore s hst
        rw [hse] at this
        simp [hk.1] at this
      · have : s = t := by omega
        subst this
        rw [← hse, hte]
theorem zeros64 : [Value.int .i64 0, .int .i64 0, .int .i64 0, .int .i64 0, .int .i64 0, .int .i64 0, .int .i64 0, .int .i64 0, .int .i64 0, .int .i64 0, .int .i64 0, .int .i64 0, .int .i64 0, .int .i64 0, .int .i64 0, .int .i64 0, .int .i64 0, .int .i64 0, .int .i64 0, .int .i64 0, .int .i64 0, .int .i64 0, .int .i64 0, .int .i64 0, .int .i64 0, .int .i64 0, .int .i64 0, .int .i64 0, .int .i64 0, .int .i64 0, .int .i64 0, .int .i64 0] = i64s (List.replicate 32 0) := rfl
theorem slA_all (b : Nat) (k : VP) : wSlA (.pointer (some ⟨b, 0, none⟩)) 32 1 none none none k = k (.slice (some ⟨b, 0, none⟩) 32 32) := by
  have e : sliceA (some ⟨b, 0, none⟩) 32 32 1 none none none false = some (.slice (some ⟨b, 0, none⟩) 32 32) := rfl
  unfold wSlA
  simp only [e, force1_eq]
theorem copy_i64s {l : List Int} (h : l.length ≤ 32) : putL (i64s (List.replicate 32 0)) 0 (i64s l) = i64s (l ++ List.replicate (32 - l.length) 0) := by
  simp only [putL, i64s, List.map_replicate, List.take_zero, List.nil_append, List.drop_replicate, List.map_append, List.length_map, Nat.zero_add]

theorem downTo_get {f : Nat} : ∀ {m i : Nat}, i < m → (downTo f m)[i]? = some ((f : Int) - 1 - i)
  | 0, i, h => by omega
  | m + 1, i, h => by
    unfold downTo
    by_cases hi : i < m
    · rw [List.getElem?_append_left (by rw [downTo_length]; exact hi)]; exact downTo_get hi
    · have : i = m := by omega
      subst this
      rw [List.getElem?_append_right (by rw [downTo_length]; omega), downTo_length]; simp
theorem downTo_mem {f : Nat} : ∀ {m : Nat} {x : Int}, x ∈ downTo f m → ∃ i : Nat, i < m ∧ x = (f : Int) - 1 - i
  | 0, x, h => by simp [downTo] at h
  | m + 1, x, h => by
    unfold downTo at h
    simp only [List.mem_append, List.mem_singleton] at h
    rcases h with h | h
    · obtain ⟨i, hi, e⟩ := downTo_mem h; exact ⟨i, by omega, e⟩
    · exact ⟨m, by omega, h⟩
theorem downTo_nodup {f : Nat} : ∀ m : Nat, (downTo f m).Nodup
  | 0 => by simp [downTo]
  | m + 1 => nodup_snoc (downTo_nodup m) fun h => by obtain ⟨i, hi, e⟩ := downTo_mem h; omega
theorem nodup_toNat : ∀ {l : List Int}, (∀ x ∈ l, 0 ≤ x) → l.Nodup → (l.map Int.toNat).Nodup
  | [], _, _ => by simp
  | x :: l, h0, h => by
    rw [List.nodup_cons] at h
    rw [List.map_cons, List.nodup_cons]
    refine ⟨fun hm => ?_, nodup_toNat (fun y hy => h0 y (List.mem_cons_of_mem _ hy)) h.2⟩
    obtain ⟨y, hy, e⟩ := List.mem_map.mp hm
    have h1 := h0 x List.mem_cons_self
    have h2 := h0 y (List.mem_cons_of_mem _ hy)
    have : y = x := by omega
    subst this
    exact h.1 hy
theorem perm_order {l : List Int} {f n : Nat} (h : permOK l f n) : ∃ order : List Nat, (l ++ downTo f f = order.map fun (w : Nat) => (w : Int)) ∧ order.Nodup ∧ (∀ w ∈ order, w < n) ∧ order.length = n := by
  obtain ⟨h1, h2, h3⟩ := h
  have hall : ∀ x ∈ l ++ downTo f f, 0 ≤ x ∧ x < n := by
    intro x hx
    rcases List.mem_append.mp hx with hx | hx
    · have := h2 x hx; omega
    · obtain ⟨i, hi, e⟩ := downTo_mem hx; omega
  refine ⟨(l ++ downTo f f).map Int.toNat, ?_, nodup_toNat (fun x hx => (hall x hx).1) ?_, ?_, ?_⟩
  · rw [List.map_map]
    conv => lhs; rw [← List.map_id (l ++ downTo f f)]
    exact List.map_congr_left fun x hx => by have := (hall x hx).1; simp; omega
  · rw [List.nodup_append]
    exact ⟨h3, downTo_nodup f, fun a ha b hb e => by
      subst e
      have := h2 a ha
      obtain ⟨i, hi, e⟩ := downTo_mem hb; omega⟩
  · intro w hw
    obtain ⟨x, hx, rfl⟩ := List.mem_map.mp hw
    have := hall x hx; omega
  · simp [downTo_length]; omega

theorem order_all {order : List Nat} {n w : Nat} (hnd : order.Nodup) (hlt : ∀ w ∈ order, w < n) (hlen : order.length = n) (hw : w < n) : w ∈ order := by
  refine Classical.byContradiction fun h => ?_
  have h1 : (w :: order).Nodup := List.nodup_cons.mpr ⟨h, hnd⟩
  have h2 := List.Nodup.length_le_of_subset (l₂ := List.range n) h1 fun x hx => by
    rw [List.mem_range]
    rcases List.mem_cons.mp hx with rfl | hx
    · exact hw
    · exact hlt x hx
  simp at h2; omega

/-- The result of a refusal. -/
def refuse (c : Int) : Value := .tuple ⟨[.slice none 0 0, .int .i64 c]⟩

structure M13 (K : Heap) (top a o : Nat) (near : List Nat) (out : List Bag) (H : Heap) : Prop where
  near : getH H a = some (.cells (u32s near) 0)
  out : getH H o = some (.cells (bagsC out) 0)
  same : ∀ q, q < top → q ≠ a → q ≠ o → getH H q = getH K q
theorem M13.setNear {K : Heap} {top a o : Nat} {near : List Nat} {out : List Bag} {H : Heap} (h : M13 K top a o near out H) (hao : a ≠ o) (l : List Nat) : M13 K top a o l out (hs H a (some (.cells (u32s l) 0))) :=
  ⟨getH_same _ _ _, by rw [getH_ne _ (by omega)]; exact h.out, fun q h0 h1 h2 => by rw [getH_ne _ h1]; exact h.same q h0 h1 h2⟩
theorem M13.setOut {K : Heap} {top a o : Nat} {near : List Nat} {out : List Bag} {H : Heap} (h : M13 K top a o near out H) (hao : a ≠ o) (l : List Bag) : M13 K top a o near l (hs H o (some (.cells (bagsC l) 0))) :=
  ⟨by rw [getH_ne _ hao]; exact h.near, getH_same _ _ _, fun q h0 h1 h2 => by rw [getH_ne _ h2]; exact h.same q h0 h1 h2⟩
theorem M13.setNew {K : Heap} {top a o : Nat} {near : List Nat} {out : List Bag} {H : Heap} (h : M13 K top a o near out H) {q : Nat} (hq : top ≤ q) (ha : a < top) (ho : o < top) (b : Option Blk) : M13 K top a o near out (hs H q b) :=
  ⟨by rw [getH_ne _ (by omega)]; exact h.near, by rw [getH_ne _ (by omega)]; exact h.out, fun r h0 h1 h2 => by rw [getH_ne _ (by omega)]; exact h.same r h0 h1 h2⟩

set_option maxHeartbeats 8000000 in
theorem bags13 (N0 free : Int) (A : Option Addr) (es : List Nat) (cap : Nat) (P : Option Addr) (l : List Int) (capP : Nat) (H : Heap) (nx : Nat) (hS : Sl H nx A (u32s es)) (hsm : Small es)
    (hP : Sl H nx P (i64s l)) (hP0 : Has H nx P) (hl : l.length ≤ 40) :
    Ans Tryz.prog 62 [gv N0 A es.length cap, .int .i64 free, .slice P l.length capP] H nx fun r H' nx' => Ext H nx H' nx' ∧
      ((fcode N0 free es ≠ 0 ∧ r = refuse (fcode N0 free es)) ∨ (∃ n f : Nat, N0 = n ∧ free = f ∧ f ≤ n ∧ n ≤ 32 ∧ fcode N0 free es = 0 ∧
        ((¬ permOK l f n ∧ r = refuse 1) ∨ (permOK l f n ∧ ∃ order : List Nat, (l ++ downTo f f = order.map fun (w : Nat) => (w : Int)) ∧ order.Nodup ∧ (∀ w ∈ order, w < n) ∧ order.length = n ∧
          ∃ R, r = .tuple ⟨[.slice R n n, .int .i64 0]⟩ ∧ Sl H' nx' R (bagsC (outs n (List.replicate n zeroBag) (adj es) order)))))) := by
  refine spec62 ?_
  unfold F62
  have hE1 : Ext H nx (hs H nx (some (.cells [.int .i64 N0, .slice A es.length cap] 0))) (nx + 1) := (Ext.refl H nx).new _ (Nat.le_refl _) (by omega)
  simp (config := { maxSteps := 2000000 }) (disch := first | omega | assumption | exact shr_lt (by assumption) | exact ndiff32 (by assumption) | exact below_lt (by omega) | fail) only [List.getD_cons_zero, List.getD_cons_succ, wBin_lss, wBin_leq, wBin_gtr, wBin_geq, wBin_eql, wBin_neq, wIf_bool, wGuard_true, wGuard_false, wPick_true, wPick_false, wUn_not, wFld_eq, wExt_eq, wPart_one, wPart_agg, wLen_slice, wLen_string, wNew_eq, wNm_eq, dBox_agg, dBox_int, dBox_slice, dBox_string, dBox_bool, dBox_map, dBox_ptr, oneCells, wLd_none, wLd_2, wLd_3, wLd_32, ldP_cells, ldP_rom, cellP_one, getH_same, getH_ne, forceV_eq, forceN_eq, hsK_eq, Option.elim_some, List.getElem?_cons_zero, List.getElem?_cons_succ, Yld.val, decide_true, decide_false, if_true, if_false, Bool.false_eq_true, Nat.zero_add, Nat.add_zero, and_true, true_and, or_false, Bool.not_true, Bool.not_false, and_self, wBin_add64, wBin_sub64, wIdx_slice, wIdx_array, wNilc_eq, Int.toNat_natCast, Nat.mul_one, Nat.zero_mul, wSt_agg, wSt_int, wSt_bool, wSt_string, wSt_slice, wSt_ptr, wSt_map, wSt_func, stP_cells, bit_one, bit_zero, bit_one', bit_zero', wBin_shr32, wBin_and1, wBin_rem2, wBin_andNot32, wBin_or32, wBin_and32, wBin_shl32, u32_eq_zero, u32_ne_zero, List.length_cons, List.length_nil, Nat.le_refl, Nat.reduceAdd, Nat.reduceMul, Nat.reduceLeDiff, Int.toNat_zero, Int.toNat_one, cellP_lit2, zeros64, zeros32]
  refine wCall_rule (checkFree27 N0 free A es cap _ _ (hS.ext hE1) hsm) ?_
  rintro _ H2 nx2 ⟨rfl, hE2⟩
  have hEE2 := hE1.trans hE2
  have hg2 := hE2.get nx (by omega)
  rw [getH_same] at hg2
  have hnx2 := hE2.le
  by_cases hfc : fcode N0 free es = 0
  case neg =>
    have d1 : decide (fcode N0 free es ≠ 0) = true := by simp [hfc]
    simp (disch := first | omega | assumption | exact shr_lt (by assumption) | exact ndiff32 (by assumption) | exact below_lt (by omega) | fail) only [List.getD_cons_zero, List.getD_cons_succ, wBin_lss, wBin_leq, wBin_gtr, wBin_geq, wBin_eql, wBin_neq, wIf_bool, wGuard_true, wGuard_false, wPick_true, wPick_false, wUn_not, wFld_eq, wExt_eq, wPart_one, wPart_agg, wLen_slice, wLen_string, wNew_eq, wNm_eq, dBox_agg, dBox_int, dBox_slice, dBox_string, dBox_bool, dBox_map, dBox_ptr, oneCells, wLd_none, wLd_2, wLd_3, wLd_32, ldP_cells, ldP_rom, cellP_one, getH_same, getH_ne, forceV_eq, forceN_eq, hsK_eq, Option.elim_some, List.getElem?_cons_zero, List.getElem?_cons_succ, Yld.val, decide_true, decide_false, if_true, if_false, Bool.false_eq_true, Nat.zero_add, Nat.add_zero, and_true, true_and, or_false, Bool.not_true, Bool.not_false, and_self, wBin_add64, wBin_sub64, wIdx_slice, wIdx_array, wNilc_eq, Int.toNat_natCast, Nat.mul_one, Nat.zero_mul, wSt_agg, wSt_int, wSt_bool, wSt_string, wSt_slice, wSt_ptr, wSt_map, wSt_func, stP_cells, bit_one, bit_zero, bit_one', bit_zero', wBin_shr32, wBin_and1, wBin_rem2, wBin_andNot32, wBin_or32, wBin_and32, wBin_shl32, u32_eq_zero, u32_ne_zero, List.length_cons, List.length_nil, Nat.le_refl, Nat.reduceAdd, Nat.reduceMul, Nat.reduceLeDiff, Int.toNat_zero, Int.toNat_one, d1]
    exact ⟨hEE2, .inl ⟨hfc, rfl⟩⟩
  have d1 : decide (fcode N0 free es ≠ 0) = false := by simp [hfc]
  obtain ⟨n, f, rfl, rfl, hn, hfn, hle, hes⟩ := fcode_inv hfc
  simp (config := { maxSteps := 2000000 }) (disch := first | omega | assumption | exact shr_lt (by assumption) | exact ndiff32 (by assumption) | exact below_lt (by omega) | fail) only [List.getD_cons_zero, List.getD_cons_succ, wBin_lss, wBin_leq, wBin_gtr, wBin_geq, wBin_eql, wBin_neq, wIf_bool, wGuard_true, wGuard_false, wPick_true, wPick_false, wUn_not, wFld_eq, wExt_eq, wPart_one, wPart_agg, wLen_slice, wLen_string, wNew_eq, wNm_eq, dBox_agg, dBox_int, dBox_slice, dBox_string, dBox_bool, dBox_map, dBox_ptr, oneCells, wLd_none, wLd_2, wLd_3, wLd_32, ldP_cells, ldP_rom, cellP_one, getH_same, getH_ne, forceV_eq, forceN_eq, hsK_eq, Option.elim_some, List.getElem?_cons_zero, List.getElem?_cons_succ, Yld.val, decide_true, decide_false, if_true, if_false, Bool.false_eq_true, Nat.zero_add, Nat.add_zero, and_true, true_and, or_false, Bool.not_true, Bool.not_false, and_self, wBin_add64, wBin_sub64, wIdx_slice, wIdx_array, wNilc_eq, Int.toNat_natCast, Nat.mul_one, Nat.zero_mul, wSt_agg, wSt_int, wSt_bool, wSt_string, wSt_slice, wSt_ptr, wSt_map, wSt_func, stP_cells, bit_one, bit_zero, bit_one', bit_zero', wBin_shr32, wBin_and1, wBin_rem2, wBin_andNot32, wBin_or32, wBin_and32, wBin_shl32, u32_eq_zero, u32_ne_zero, List.length_cons, List.length_nil, Nat.le_refl, Nat.reduceAdd, Nat.reduceMul, Nat.reduceLeDiff, Int.toNat_zero, Int.toNat_one, d1]
  have good : ∀ {r : Value} {H' : Heap} {nx' : Nat}, Ext H nx H' nx' → ((¬ permOK l f n ∧ r = refuse 1) ∨ (permOK l f n ∧ ∃ order : List Nat, (l ++ downTo f f = order.map fun (w : Nat) => (w : Int)) ∧ order.Nodup ∧ (∀ w ∈ order, w < n) ∧ order.length = n ∧
          ∃ R, r = .tuple ⟨[.slice R n n, .int .i64 0]⟩ ∧ Sl H' nx' R (bagsC (outs n (List.replicate n zeroBag) (adj es) order)))) →
      Ext H nx H' nx' ∧ ((fcode (n : Int) (f : Int) es ≠ 0 ∧ r = refuse (fcode (n : Int) (f : Int) es)) ∨ (∃ n' f' : Nat, (n : Int) = n' ∧ (f : Int) = f' ∧ f' ≤ n' ∧ n' ≤ 32 ∧ fcode (n : Int) (f : Int) es = 0 ∧
        ((¬ permOK l f' n' ∧ r = refuse 1) ∨ (permOK l f' n' ∧ ∃ order : List Nat, (l ++ downTo f' f' = order.map fun (w : Nat) => (w : Int)) ∧ order.Nodup ∧ (∀ w ∈ order, w < n') ∧ order.length = n' ∧
          ∃ R, r = .tuple ⟨[.slice R n' n', .int .i64 0]⟩ ∧ Sl H' nx' R (bagsC (outs n' (List.replicate n' zeroBag) (adj es) order)))))) :=
    fun hE h => ⟨hE, .inr ⟨n, f, rfl, rfl, hfn, hn, hfc, h⟩⟩
  -- the permutation is looked at
  refine wLoop_rule (m := l.length) (fun m L H' nx' => ∃ i seen : Nat, m + i = l.length ∧ L = [.int .u32 (seen : Int), .int .i64 (i : Int)] ∧ seen < 4294967296 ∧ (∀ w : Nat, seen.testBit w = decide ((w : Int) ∈ l.take i)) ∧
    (∀ x ∈ l.take i, (f : Int) ≤ x ∧ x < (n : Int)) ∧ (l.take i).Nodup ∧ H2 = H' ∧ nx2 = nx') ?_ ⟨0, 0, rfl, rfl, by omega, by simp, by simp, by simp, rfl, rfl⟩
  rintro m ih L _ _ ⟨i, seen, hm, rfl, hseen, hbits, hin, hnd, rfl, rfl⟩ hih
  simp (config := { maxSteps := 2000000 }) (disch := first | omega | assumption | exact shr_lt (by assumption) | exact ndiff32 (by assumption) | exact below_lt (by omega) | fail) only [List.getD_cons_zero, List.getD_cons_succ, wBin_lss, wBin_leq, wBin_gtr, wBin_geq, wBin_eql, wBin_neq, wIf_bool, wGuard_true, wGuard_false, wPick_true, wPick_false, wUn_not, wFld_eq, wExt_eq, wPart_one, wPart_agg, wLen_slice, wLen_string, wNew_eq, wNm_eq, dBox_agg, dBox_int, dBox_slice, dBox_string, dBox_bool, dBox_map, dBox_ptr, oneCells, wLd_none, wLd_2, wLd_3, wLd_32, ldP_cells, ldP_rom, cellP_one, getH_same, getH_ne, forceV_eq, forceN_eq, hsK_eq, Option.elim_some, List.getElem?_cons_zero, List.getElem?_cons_succ, Yld.val, decide_true, decide_false, if_true, if_false, Bool.false_eq_true, Nat.zero_add, Nat.add_zero, and_true, true_and, or_false, Bool.not_true, Bool.not_false, and_self, wBin_add64, wBin_sub64, wIdx_slice, wIdx_array, wNilc_eq, Int.toNat_natCast, Nat.mul_one, Nat.zero_mul, wSt_agg, wSt_int, wSt_bool, wSt_string, wSt_slice, wSt_ptr, wSt_map, wSt_func, stP_cells, bit_one, bit_zero, bit_one', bit_zero', wBin_shr32, wBin_and1, wBin_rem2, wBin_andNot32, wBin_or32, wBin_and32, wBin_shl32, u32_eq_zero, u32_ne_zero, List.length_cons, List.length_nil, Nat.le_refl, Nat.reduceAdd, Nat.reduceMul, Nat.reduceLeDiff, Int.toNat_zero, Int.toNat_one]
  by_cases hi : i < l.length
  case pos =>
    have hi' : (i : Int) < (l.length : Int) := by omega
    obtain ⟨x, hx⟩ : ∃ x, l[i]? = some x := ⟨_, List.getElem?_eq_getElem hi⟩
    obtain ⟨B, o, row, rfl, hBn, hrow, hget⟩ := (hP.ext hEE2).open (i := i) (by rw [i64s_length]; omega)
    have g0 := hget _ _ (i64s_get hx)
    have bad : ¬ ((f : Int) ≤ x ∧ x < (n : Int)) → ¬ permOK l f n := fun h1 h2 => h1 (h2.2.1 x (List.mem_of_getElem? hx))
    simp (disch := first | omega | assumption | exact shr_lt (by assumption) | exact ndiff32 (by assumption) | exact below_lt (by omega) | fail) only [List.getD_cons_zero, List.getD_cons_succ, wBin_lss, wBin_leq, wBin_gtr, wBin_geq, wBin_eql, wBin_neq, wIf_bool, wGuard_true, wGuard_false, wPick_true, wPick_false, wUn_not, wFld_eq, wExt_eq, wPart_one, wPart_agg, wLen_slice, wLen_string, wNew_eq, wNm_eq, dBox_agg, dBox_int, dBox_slice, dBox_string, dBox_bool, dBox_map, dBox_ptr, oneCells, wLd_none, wLd_2, wLd_3, wLd_32, ldP_cells, ldP_rom, cellP_one, getH_same, getH_ne, forceV_eq, forceN_eq, hsK_eq, Option.elim_some, List.getElem?_cons_zero, List.getElem?_cons_succ, Yld.val, decide_true, decide_false, if_true, if_false, Bool.false_eq_true, Nat.zero_add, Nat.add_zero, and_true, true_and, or_false, Bool.not_true, Bool.not_false, and_self, wBin_add64, wBin_sub64, wIdx_slice, wIdx_array, wNilc_eq, Int.toNat_natCast, Nat.mul_one, Nat.zero_mul, wSt_agg, wSt_int, wSt_bool, wSt_string, wSt_slice, wSt_ptr, wSt_map, wSt_func, stP_cells, bit_one, bit_zero, bit_one', bit_zero', wBin_shr32, wBin_and1, wBin_rem2, wBin_andNot32, wBin_or32, wBin_and32, wBin_shl32, u32_eq_zero, u32_ne_zero, List.length_cons, List.length_nil, Nat.le_refl, Nat.reduceAdd, Nat.reduceMul, Nat.reduceLeDiff, Int.toNat_zero, Int.toNat_one, hi', wJoin_eq, ldP_row hrow, g0, hg2]
    by_cases h1 : x < (f : Int)
    · simp (disch := first | omega | assumption | exact shr_lt (by assumption) | exact ndiff32 (by assumption) | exact below_lt (by omega) | fail) only [List.getD_cons_zero, List.getD_cons_succ, wBin_lss, wBin_leq, wBin_gtr, wBin_geq, wBin_eql, wBin_neq, wIf_bool, wGuard_true, wGuard_false, wPick_true, wPick_false, wUn_not, wFld_eq, wExt_eq, wPart_one, wPart_agg, wLen_slice, wLen_string, wNew_eq, wNm_eq, dBox_agg, dBox_int, dBox_slice, dBox_string, dBox_bool, dBox_map, dBox_ptr, oneCells, wLd_none, wLd_2, wLd_3, wLd_32, ldP_cells, ldP_rom, cellP_one, getH_same, getH_ne, forceV_eq, forceN_eq, hsK_eq, Option.elim_some, List.getElem?_cons_zero, List.getElem?_cons_succ, Yld.val, decide_true, decide_false, if_true, if_false, Bool.false_eq_true, Nat.zero_add, Nat.add_zero, and_true, true_and, or_false, Bool.not_true, Bool.not_false, and_self, wBin_add64, wBin_sub64, wIdx_slice, wIdx_array, wNilc_eq, Int.toNat_natCast, Nat.mul_one, Nat.zero_mul, wSt_agg, wSt_int, wSt_bool, wSt_string, wSt_slice, wSt_ptr, wSt_map, wSt_func, stP_cells, bit_one, bit_zero, bit_one', bit_zero', wBin_shr32, wBin_and1, wBin_rem2, wBin_andNot32, wBin_or32, wBin_and32, wBin_shl32, u32_eq_zero, u32_ne_zero, List.length_cons, List.length_nil, Nat.le_refl, Nat.reduceAdd, Nat.reduceMul, Nat.reduceLeDiff, Int.toNat_zero, Int.toNat_one, h1]
      exact good hEE2 (.inl ⟨bad (by omega), rfl⟩)
    by_cases h2 : x ≥ (n : Int)
    · simp (disch := first | omega | assumption | exact shr_lt (by assumption) | exact ndiff32 (by assumption) | exact below_lt (by omega) | fail) only [List.getD_cons_zero, List.getD_cons_succ, wBin_lss, wBin_leq, wBin_gtr, wBin_geq, wBin_eql, wBin_neq, wIf_bool, wGuard_true, wGuard_false, wPick_true, wPick_false, wUn_not, wFld_eq, wExt_eq, wPart_one, wPart_agg, wLen_slice, wLen_string, wNew_eq, wNm_eq, dBox_agg, dBox_int, dBox_slice, dBox_string, dBox_bool, dBox_map, dBox_ptr, oneCells, wLd_none, wLd_2, wLd_3, wLd_32, ldP_cells, ldP_rom, cellP_one, getH_same, getH_ne, forceV_eq, forceN_eq, hsK_eq, Option.elim_some, List.getElem?_cons_zero, List.getElem?_cons_succ, Yld.val, decide_true, decide_false, if_true, if_false, Bool.false_eq_true, Nat.zero_add, Nat.add_zero, and_true, true_and, or_false, Bool.not_true, Bool.not_false, and_self, wBin_add64, wBin_sub64, wIdx_slice, wIdx_array, wNilc_eq, Int.toNat_natCast, Nat.mul_one, Nat.zero_mul, wSt_agg, wSt_int, wSt_bool, wSt_string, wSt_slice, wSt_ptr, wSt_map, wSt_func, stP_cells, bit_one, bit_zero, bit_one', bit_zero', wBin_shr32, wBin_and1, wBin_rem2, wBin_andNot32, wBin_or32, wBin_and32, wBin_shl32, u32_eq_zero, u32_ne_zero, List.length_cons, List.length_nil, Nat.le_refl, Nat.reduceAdd, Nat.reduceMul, Nat.reduceLeDiff, Int.toNat_zero, Int.toNat_one, h1, h2]
      exact good hEE2 (.inl ⟨bad (by omega), rfl⟩)
    obtain ⟨w, rfl⟩ : ∃ w : Nat, x = w := ⟨x.toNat, by omega⟩
    have hw : w < 32 := by omega
    have hb := hbits w
    cases hsw : seen.testBit w with
    | true =>
      simp (disch := first | omega | assumption | exact shr_lt (by assumption) | exact ndiff32 (by assumption) | exact below_lt (by omega) | fail) only [List.getD_cons_zero, List.getD_cons_succ, wBin_lss, wBin_leq, wBin_gtr, wBin_geq, wBin_eql, wBin_neq, wIf_bool, wGuard_true, wGuard_false, wPick_true, wPick_false, wUn_not, wFld_eq, wExt_eq, wPart_one, wPart_agg, wLen_slice, wLen_string, wNew_eq, wNm_eq, dBox_agg, dBox_int, dBox_slice, dBox_string, dBox_bool, dBox_map, dBox_ptr, oneCells, wLd_none, wLd_2, wLd_3, wLd_32, ldP_cells, ldP_rom, cellP_one, getH_same, getH_ne, forceV_eq, forceN_eq, hsK_eq, Option.elim_some, List.getElem?_cons_zero, List.getElem?_cons_succ, Yld.val, decide_true, decide_false, if_true, if_false, Bool.false_eq_true, Nat.zero_add, Nat.add_zero, and_true, true_and, or_false, Bool.not_true, Bool.not_false, and_self, wBin_add64, wBin_sub64, wIdx_slice, wIdx_array, wNilc_eq, Int.toNat_natCast, Nat.mul_one, Nat.zero_mul, wSt_agg, wSt_int, wSt_bool, wSt_string, wSt_slice, wSt_ptr, wSt_map, wSt_func, stP_cells, bit_one, bit_zero, bit_one', bit_zero', wBin_shr32, wBin_and1, wBin_rem2, wBin_andNot32, wBin_or32, wBin_and32, wBin_shl32, u32_eq_zero, u32_ne_zero, List.length_cons, List.length_nil, Nat.le_refl, Nat.reduceAdd, Nat.reduceMul, Nat.reduceLeDiff, Int.toNat_zero, Int.toNat_one, h1, h2, hsw]
      refine good hEE2 (.inl ⟨fun hp => ?_, rfl⟩)
      rw [hsw] at hb
      have hmem : (w : Int) ∈ l.take i := by simpa using hb.symm
      obtain ⟨j, hj, hje⟩ := List.getElem_of_mem hmem
      simp at hj
      have hj2 : l[j]? = some (w : Int) := by rw [← hje, List.getElem_take]; exact List.getElem?_eq_getElem (by omega)
      have hne := (List.pairwise_iff_getElem.mp hp.2.2) j i (by omega) hi (by omega)
      exact hne (by rw [(List.getElem?_eq_some_iff.mp hj2).2, (List.getElem?_eq_some_iff.mp hx).2])
    | false =>
      have hp32 : 2 ^ w < 4294967296 := pow32 hw
      rw [hsw] at hb
      have hnm : (w : Int) ∉ l.take i := by simpa using hb.symm
      simp (disch := first | omega | assumption | exact shr_lt (by assumption) | exact ndiff32 (by assumption) | exact below_lt (by omega) | fail) only [List.getD_cons_zero, List.getD_cons_succ, wBin_lss, wBin_leq, wBin_gtr, wBin_geq, wBin_eql, wBin_neq, wIf_bool, wGuard_true, wGuard_false, wPick_true, wPick_false, wUn_not, wFld_eq, wExt_eq, wPart_one, wPart_agg, wLen_slice, wLen_string, wNew_eq, wNm_eq, dBox_agg, dBox_int, dBox_slice, dBox_string, dBox_bool, dBox_map, dBox_ptr, oneCells, wLd_none, wLd_2, wLd_3, wLd_32, ldP_cells, ldP_rom, cellP_one, getH_same, getH_ne, forceV_eq, forceN_eq, hsK_eq, Option.elim_some, List.getElem?_cons_zero, List.getElem?_cons_succ, Yld.val, decide_true, decide_false, if_true, if_false, Bool.false_eq_true, Nat.zero_add, Nat.add_zero, and_true, true_and, or_false, Bool.not_true, Bool.not_false, and_self, wBin_add64, wBin_sub64, wIdx_slice, wIdx_array, wNilc_eq, Int.toNat_natCast, Nat.mul_one, Nat.zero_mul, wSt_agg, wSt_int, wSt_bool, wSt_string, wSt_slice, wSt_ptr, wSt_map, wSt_func, stP_cells, bit_one, bit_zero, bit_one', bit_zero', wBin_shr32, wBin_and1, wBin_rem2, wBin_andNot32, wBin_or32, wBin_and32, wBin_shl32, u32_eq_zero, u32_ne_zero, List.length_cons, List.length_nil, Nat.le_refl, Nat.reduceAdd, Nat.reduceMul, Nat.reduceLeDiff, Int.toNat_zero, Int.toNat_one, h1, h2, hsw]
      refine hih (m - 1) _ _ _ (by omega) ⟨i + 1, seen ||| 2 ^ w, by omega, by simp, or32 hseen hp32, fun u => ?_, ?_, ?_, rfl, rfl⟩
      · rw [Nat.testBit_or, hbits, Nat.testBit_two_pow, take_next hx]
        by_cases huw : u = w
        · subst huw; simp
        · have e1 : decide (w = u) = false := by simp; omega
          have e2 : ¬ (u : Int) = (w : Int) := by omega
          simp [e1, e2]
      · rw [take_next hx]
        intro z hz
        simp only [List.mem_append, List.mem_singleton] at hz
        rcases hz with hz | rfl
        · exact hin z hz
        · omega
      · rw [take_next hx]; exact nodup_snoc hnd hnm
  have hi' : ¬ (i : Int) < (l.length : Int) := by omega
  rw [take_all hi] at hin hnd
  by_cases hlen : l.length + f = n
  case neg =>
    have d2 : decide ((l.length : Int) ≠ (n : Int) - (f : Int)) = true := by simp; omega
    simp (disch := first | omega | assumption | exact shr_lt (by assumption) | exact ndiff32 (by assumption) | exact below_lt (by omega) | fail) only [List.getD_cons_zero, List.getD_cons_succ, wBin_lss, wBin_leq, wBin_gtr, wBin_geq, wBin_eql, wBin_neq, wIf_bool, wGuard_true, wGuard_false, wPick_true, wPick_false, wUn_not, wFld_eq, wExt_eq, wPart_one, wPart_agg, wLen_slice, wLen_string, wNew_eq, wNm_eq, dBox_agg, dBox_int, dBox_slice, dBox_string, dBox_bool, dBox_map, dBox_ptr, oneCells, wLd_none, wLd_2, wLd_3, wLd_32, ldP_cells, ldP_rom, cellP_one, getH_same, getH_ne, forceV_eq, forceN_eq, hsK_eq, Option.elim_some, List.getElem?_cons_zero, List.getElem?_cons_succ, Yld.val, decide_true, decide_false, if_true, if_false, Bool.false_eq_true, Nat.zero_add, Nat.add_zero, and_true, true_and, or_false, Bool.not_true, Bool.not_false, and_self, wBin_add64, wBin_sub64, wIdx_slice, wIdx_array, wNilc_eq, Int.toNat_natCast, Nat.mul_one, Nat.zero_mul, wSt_agg, wSt_int, wSt_bool, wSt_string, wSt_slice, wSt_ptr, wSt_map, wSt_func, stP_cells, bit_one, bit_zero, bit_one', bit_zero', wBin_shr32, wBin_and1, wBin_rem2, wBin_andNot32, wBin_or32, wBin_and32, wBin_shl32, u32_eq_zero, u32_ne_zero, List.length_cons, List.length_nil, Nat.le_refl, Nat.reduceAdd, Nat.reduceMul, Nat.reduceLeDiff, Int.toNat_zero, Int.toNat_one, hi', hg2, d2]
    exact good hEE2 (.inl ⟨fun hp => hlen hp.1, rfl⟩)
  have d2 : decide ((l.length : Int) ≠ (n : Int) - (f : Int)) = false := by simp; omega
  have hpok : permOK l f n := ⟨hlen, hin, hnd⟩
  simp (config := { maxSteps := 2000000 }) (disch := first | omega | assumption | exact shr_lt (by assumption) | exact ndiff32 (by assumption) | exact below_lt (by omega) | fail) only [List.getD_cons_zero, List.getD_cons_succ, wBin_lss, wBin_leq, wBin_gtr, wBin_geq, wBin_eql, wBin_neq, wIf_bool, wGuard_true, wGuard_false, wPick_true, wPick_false, wUn_not, wFld_eq, wExt_eq, wPart_one, wPart_agg, wLen_slice, wLen_string, wNew_eq, wNm_eq, dBox_agg, dBox_int, dBox_slice, dBox_string, dBox_bool, dBox_map, dBox_ptr, oneCells, wLd_none, wLd_2, wLd_3, wLd_32, ldP_cells, ldP_rom, cellP_one, getH_same, getH_ne, forceV_eq, forceN_eq, hsK_eq, Option.elim_some, List.getElem?_cons_zero, List.getElem?_cons_succ, Yld.val, decide_true, decide_false, if_true, if_false, Bool.false_eq_true, Nat.zero_add, Nat.add_zero, and_true, true_and, or_false, Bool.not_true, Bool.not_false, and_self, wBin_add64, wBin_sub64, wIdx_slice, wIdx_array, wNilc_eq, Int.toNat_natCast, Nat.mul_one, Nat.zero_mul, wSt_agg, wSt_int, wSt_bool, wSt_string, wSt_slice, wSt_ptr, wSt_map, wSt_func, stP_cells, bit_one, bit_zero, bit_one', bit_zero', wBin_shr32, wBin_and1, wBin_rem2, wBin_andNot32, wBin_or32, wBin_and32, wBin_shl32, u32_eq_zero, u32_ne_zero, List.length_cons, List.length_nil, Nat.le_refl, Nat.reduceAdd, Nat.reduceMul, Nat.reduceLeDiff, Int.toNat_zero, Int.toNat_one, hi', hg2, d2]
  clear hih
  obtain ⟨order, hord, hond, holt, holen⟩ := perm_order hpok
  have hl32 : l.length ≤ 32 := by omega
  generalize hK : hs (hs H2 nx2 (some (.cells (i64s (List.replicate 32 0)) 0))) (nx2 + 1) (some (.cells (i64s (List.replicate 32 0)) 0)) = K
  have kO : getH K nx2 = some (.cells (i64s (List.replicate 32 0)) 0) := by rw [← hK, getH_ne _ (by omega), getH_same]
  have kP : getH K (nx2 + 1) = some (.cells (i64s (List.replicate 32 0)) 0) := by rw [← hK, getH_same]
  have hEK : Ext H2 nx2 K (nx2 + 1 + 1) := by rw [← hK]; exact ((Ext.self (by omega) : Ext H2 nx2 H2 (nx2 + 1 + 1)).hs (by omega)).hs (by omega)
  have kG := (hEK.get nx (by omega)).trans hg2
  have z32 : (i64s (List.replicate 32 0)).length = 32 := by rw [i64s_length]; simp
  rw [slA_all, wCopy_row kO (src_any (hP.ext (hEE2.trans hEK)) (hP0.ext (hEE2.trans hEK)) (by rw [i64s_length]; omega) (by omega)) hl32 (oneCells_i64s l) (by rw [i64s_length, z32]; exact hl32), copy_i64s hl32]
  -- the order
  refine wLoop_rule (m := f) (fun m L H' nx' => ∃ (i : Nat) (ol : List Int), m + i = f ∧ L = [.int .i64 (i : Int)] ∧ ol.length = 32 ∧ (∀ j, j < l.length + i → ol[j]? = (l ++ downTo f f)[j]?) ∧
    getH H' nx2 = some (.cells (i64s ol) 0) ∧ (∀ q, q ≠ nx2 → getH H' q = getH K q) ∧ nx2 + 1 + 1 = nx') ?_ ⟨0, l ++ List.replicate (32 - l.length) 0, rfl, rfl, by simp; omega, fun j hj => by
      rw [List.getElem?_append_left (by omega), List.getElem?_append_left (by omega)], getH_same _ _ _, fun q hq => getH_ne _ hq, rfl⟩
  rintro m3 ih3 L3 H3 _ ⟨i3, ol, hm3, rfl, holn, hov, hO3, hsame3, rfl⟩ hih3
  simp (config := { maxSteps := 2000000 }) (disch := first | omega | assumption | exact shr_lt (by assumption) | exact ndiff32 (by assumption) | exact below_lt (by omega) | fail) only [List.getD_cons_zero, List.getD_cons_succ, wBin_lss, wBin_leq, wBin_gtr, wBin_geq, wBin_eql, wBin_neq, wIf_bool, wGuard_true, wGuard_false, wPick_true, wPick_false, wUn_not, wFld_eq, wExt_eq, wPart_one, wPart_agg, wLen_slice, wLen_string, wNew_eq, wNm_eq, dBox_agg, dBox_int, dBox_slice, dBox_string, dBox_bool, dBox_map, dBox_ptr, oneCells, wLd_none, wLd_2, wLd_3, wLd_32, ldP_cells, ldP_rom, cellP_one, getH_same, getH_ne, forceV_eq, forceN_eq, hsK_eq, Option.elim_some, List.getElem?_cons_zero, List.getElem?_cons_succ, Yld.val, decide_true, decide_false, if_true, if_false, Bool.false_eq_true, Nat.zero_add, Nat.add_zero, and_true, true_and, or_false, Bool.not_true, Bool.not_false, and_self, wBin_add64, wBin_sub64, wIdx_slice, wIdx_array, wNilc_eq, Int.toNat_natCast, Nat.mul_one, Nat.zero_mul, wSt_agg, wSt_int, wSt_bool, wSt_string, wSt_slice, wSt_ptr, wSt_map, wSt_func, stP_cells, bit_one, bit_zero, bit_one', bit_zero', wBin_shr32, wBin_and1, wBin_rem2, wBin_andNot32, wBin_or32, wBin_and32, wBin_shl32, u32_eq_zero, u32_ne_zero, List.length_cons, List.length_nil, Nat.le_refl, Nat.reduceAdd, Nat.reduceMul, Nat.reduceLeDiff, Int.toNat_zero, Int.toNat_one]
  by_cases hi3 : i3 < f
  case pos =>
    have hi3' : (i3 : Int) < (f : Int) := by omega
    have hidx : ((l.length : Int) + (i3 : Int)).toNat = l.length + i3 := by omega
    have hb3 : l.length + i3 < ol.length := by omega
    have hol3 : (i64s ol).length = 32 := by rw [i64s_length]; exact holn
    simp (disch := first | omega | assumption | exact shr_lt (by assumption) | exact ndiff32 (by assumption) | exact below_lt (by omega) | fail) only [List.getD_cons_zero, List.getD_cons_succ, wBin_lss, wBin_leq, wBin_gtr, wBin_geq, wBin_eql, wBin_neq, wIf_bool, wGuard_true, wGuard_false, wPick_true, wPick_false, wUn_not, wFld_eq, wExt_eq, wPart_one, wPart_agg, wLen_slice, wLen_string, wNew_eq, wNm_eq, dBox_agg, dBox_int, dBox_slice, dBox_string, dBox_bool, dBox_map, dBox_ptr, oneCells, wLd_none, wLd_2, wLd_3, wLd_32, ldP_cells, ldP_rom, cellP_one, getH_same, getH_ne, forceV_eq, forceN_eq, hsK_eq, Option.elim_some, List.getElem?_cons_zero, List.getElem?_cons_succ, Yld.val, decide_true, decide_false, if_true, if_false, Bool.false_eq_true, Nat.zero_add, Nat.add_zero, and_true, true_and, or_false, Bool.not_true, Bool.not_false, and_self, wBin_add64, wBin_sub64, wIdx_slice, wIdx_array, wNilc_eq, Int.toNat_natCast, Nat.mul_one, Nat.zero_mul, wSt_agg, wSt_int, wSt_bool, wSt_string, wSt_slice, wSt_ptr, wSt_map, wSt_func, stP_cells, bit_one, bit_zero, bit_one', bit_zero', wBin_shr32, wBin_and1, wBin_rem2, wBin_andNot32, wBin_or32, wBin_and32, wBin_shl32, u32_eq_zero, u32_ne_zero, List.length_cons, List.length_nil, Nat.le_refl, Nat.reduceAdd, Nat.reduceMul, Nat.reduceLeDiff, Int.toNat_zero, Int.toNat_one, hi3', hidx, hO3, putL_i64s hb3, hol3]
    refine ⟨by omega, hih3 (m3 - 1) _ _ _ (by omega) ⟨i3 + 1, ol.set (l.length + i3) ((f : Int) - 1 - i3), by omega, by simp, by rw [List.length_set]; exact holn, fun j hj => ?_, getH_same _ _ _, fun q hq => by rw [getH_ne _ hq]; exact hsame3 q hq, rfl⟩⟩
    rw [List.getElem?_set]
    by_cases hjj : l.length + i3 = j
    · subst hjj
      rw [if_pos rfl, if_pos (by omega), List.getElem?_append_right (by omega), Nat.add_sub_cancel_left, downTo_get hi3]
    · rw [if_neg hjj]; exact hov j (by omega)
  have hi3' : ¬ (i3 : Int) < (f : Int) := by omega
  have hi3e : i3 = f := by omega
  subst hi3e
  have hon : ∀ (j w : Nat), order[j]? = some w → ol[j]? = some (w : Int) := by
    intro j w hj
    rw [hov j (by have := lt_len hj; omega), hord]
    simp [hj]
  have hG3 := (hsame3 nx (by omega)).trans kG
  simp (config := { maxSteps := 2000000 }) (disch := first | omega | assumption | exact shr_lt (by assumption) | exact ndiff32 (by assumption) | exact below_lt (by omega) | fail) only [List.getD_cons_zero, List.getD_cons_succ, wBin_lss, wBin_leq, wBin_gtr, wBin_geq, wBin_eql, wBin_neq, wIf_bool, wGuard_true, wGuard_false, wPick_true, wPick_false, wUn_not, wFld_eq, wExt_eq, wPart_one, wPart_agg, wLen_slice, wLen_string, wNew_eq, wNm_eq, dBox_agg, dBox_int, dBox_slice, dBox_string, dBox_bool, dBox_map, dBox_ptr, oneCells, wLd_none, wLd_2, wLd_3, wLd_32, ldP_cells, ldP_rom, cellP_one, getH_same, getH_ne, forceV_eq, forceN_eq, hsK_eq, Option.elim_some, List.getElem?_cons_zero, List.getElem?_cons_succ, Yld.val, decide_true, decide_false, if_true, if_false, Bool.false_eq_true, Nat.zero_add, Nat.add_zero, and_true, true_and, or_false, Bool.not_true, Bool.not_false, and_self, wBin_add64, wBin_sub64, wIdx_slice, wIdx_array, wNilc_eq, Int.toNat_natCast, Nat.mul_one, Nat.zero_mul, wSt_agg, wSt_int, wSt_bool, wSt_string, wSt_slice, wSt_ptr, wSt_map, wSt_func, stP_cells, bit_one, bit_zero, bit_one', bit_zero', wBin_shr32, wBin_and1, wBin_rem2, wBin_andNot32, wBin_or32, wBin_and32, wBin_shl32, u32_eq_zero, u32_ne_zero, List.length_cons, List.length_nil, Nat.le_refl, Nat.reduceAdd, Nat.reduceMul, Nat.reduceLeDiff, Int.toNat_zero, Int.toNat_one, hi3', hG3]
  clear hih3
  -- the places
  refine wLoop_rule (m := n) (fun m L H' nx' => ∃ (i : Nat) (pl : List Int), m + i = n ∧ L = [.int .i64 (i : Int)] ∧ pl.length = 32 ∧ (∀ j w : Nat, order[j]? = some w → j < i → pl[w]? = some (j : Int)) ∧
    getH H' (nx2 + 1) = some (.cells (i64s pl) 0) ∧ (∀ q, q ≠ nx2 + 1 → getH H' q = getH H3 q) ∧ nx2 + 1 + 1 = nx') ?_ ⟨0, List.replicate 32 0, rfl, rfl, by simp, fun j w _ h => by omega, by rw [hsame3 (nx2 + 1) (by omega)]; exact kP, fun q hq => rfl, rfl⟩
  rintro m4 ih4 L4 H4 _ ⟨i4, pl, hm4, rfl, hpln, hpv, hP4, hsame4, rfl⟩ hih4
  have hO4 := (hsame4 nx2 (by omega)).trans hO3
  have hG4 := (hsame4 nx (by omega)).trans hG3
  simp (config := { maxSteps := 2000000 }) (disch := first | omega | assumption | exact shr_lt (by assumption) | exact ndiff32 (by assumption) | exact below_lt (by omega) | fail) only [List.getD_cons_zero, List.getD_cons_succ, wBin_lss, wBin_leq, wBin_gtr, wBin_geq, wBin_eql, wBin_neq, wIf_bool, wGuard_true, wGuard_false, wPick_true, wPick_false, wUn_not, wFld_eq, wExt_eq, wPart_one, wPart_agg, wLen_slice, wLen_string, wNew_eq, wNm_eq, dBox_agg, dBox_int, dBox_slice, dBox_string, dBox_bool, dBox_map, dBox_ptr, oneCells, wLd_none, wLd_2, wLd_3, wLd_32, ldP_cells, ldP_rom, cellP_one, getH_same, getH_ne, forceV_eq, forceN_eq, hsK_eq, Option.elim_some, List.getElem?_cons_zero, List.getElem?_cons_succ, Yld.val, decide_true, decide_false, if_true, if_false, Bool.false_eq_true, Nat.zero_add, Nat.add_zero, and_true, true_and, or_false, Bool.not_true, Bool.not_false, and_self, wBin_add64, wBin_sub64, wIdx_slice, wIdx_array, wNilc_eq, Int.toNat_natCast, Nat.mul_one, Nat.zero_mul, wSt_agg, wSt_int, wSt_bool, wSt_string, wSt_slice, wSt_ptr, wSt_map, wSt_func, stP_cells, bit_one, bit_zero, bit_one', bit_zero', wBin_shr32, wBin_and1, wBin_rem2, wBin_andNot32, wBin_or32, wBin_and32, wBin_shl32, u32_eq_zero, u32_ne_zero, List.length_cons, List.length_nil, Nat.le_refl, Nat.reduceAdd, Nat.reduceMul, Nat.reduceLeDiff, Int.toNat_zero, Int.toNat_one]
  by_cases hi4 : i4 < n
  case pos =>
    have hi4' : (i4 : Int) < (n : Int) := by omega
    obtain ⟨w, hw⟩ : ∃ w, order[i4]? = some w := ⟨_, List.getElem?_eq_getElem (by omega)⟩
    have hwn : w < n := holt w (List.mem_of_getElem? hw)
    have gw := i64s_get (hon i4 w hw)
    have hb4 : w < pl.length := by omega
    have hpl4 : (i64s pl).length = 32 := by rw [i64s_length]; exact hpln
    simp (disch := first | omega | assumption | exact shr_lt (by assumption) | exact ndiff32 (by assumption) | exact below_lt (by omega) | fail) only [List.getD_cons_zero, List.getD_cons_succ, wBin_lss, wBin_leq, wBin_gtr, wBin_geq, wBin_eql, wBin_neq, wIf_bool, wGuard_true, wGuard_false, wPick_true, wPick_false, wUn_not, wFld_eq, wExt_eq, wPart_one, wPart_agg, wLen_slice, wLen_string, wNew_eq, wNm_eq, dBox_agg, dBox_int, dBox_slice, dBox_string, dBox_bool, dBox_map, dBox_ptr, oneCells, wLd_none, wLd_2, wLd_3, wLd_32, ldP_cells, ldP_rom, cellP_one, getH_same, getH_ne, forceV_eq, forceN_eq, hsK_eq, Option.elim_some, List.getElem?_cons_zero, List.getElem?_cons_succ, Yld.val, decide_true, decide_false, if_true, if_false, Bool.false_eq_true, Nat.zero_add, Nat.add_zero, and_true, true_and, or_false, Bool.not_true, Bool.not_false, and_self, wBin_add64, wBin_sub64, wIdx_slice, wIdx_array, wNilc_eq, Int.toNat_natCast, Nat.mul_one, Nat.zero_mul, wSt_agg, wSt_int, wSt_bool, wSt_string, wSt_slice, wSt_ptr, wSt_map, wSt_func, stP_cells, bit_one, bit_zero, bit_one', bit_zero', wBin_shr32, wBin_and1, wBin_rem2, wBin_andNot32, wBin_or32, wBin_and32, wBin_shl32, u32_eq_zero, u32_ne_zero, List.length_cons, List.length_nil, Nat.le_refl, Nat.reduceAdd, Nat.reduceMul, Nat.reduceLeDiff, Int.toNat_zero, Int.toNat_one, hi4', hO4, gw, hP4, putL_i64s hb4, hpl4]
    refine ⟨by omega, hih4 (m4 - 1) _ _ _ (by omega) ⟨i4 + 1, pl.set w (i4 : Int), by omega, by simp, by rw [List.length_set]; exact hpln, fun j u hj hji => ?_, getH_same _ _ _, fun q hq => by rw [getH_ne _ hq]; exact hsame4 q hq, rfl⟩⟩
    rw [List.getElem?_set]
    by_cases huw : w = u
    · subst huw
      rw [if_pos rfl, if_pos (by omega), nodup_at hond hj hw]
    · rw [if_neg huw]
      refine hpv j u hj ?_
      have : j ≠ i4 := by intro e; subst e; rw [hw] at hj; cases hj; exact huw rfl
      omega
  have hi4' : ¬ (i4 : Int) < (n : Int) := by omega
  have hi4e : i4 = n := by omega
  subst hi4e
  simp (config := { maxSteps := 2000000 }) (disch := first | omega | assumption | exact shr_lt (by assumption) | exact ndiff32 (by assumption) | exact below_lt (by omega) | fail) only [List.getD_cons_zero, List.getD_cons_succ, wBin_lss, wBin_leq, wBin_gtr, wBin_geq, wBin_eql, wBin_neq, wIf_bool, wGuard_true, wGuard_false, wPick_true, wPick_false, wUn_not, wFld_eq, wExt_eq, wPart_one, wPart_agg, wLen_slice, wLen_string, wNew_eq, wNm_eq, dBox_agg, dBox_int, dBox_slice, dBox_string, dBox_bool, dBox_map, dBox_ptr, oneCells, wLd_none, wLd_2, wLd_3, wLd_32, ldP_cells, ldP_rom, cellP_one, getH_same, getH_ne, forceV_eq, forceN_eq, hsK_eq, Option.elim_some, List.getElem?_cons_zero, List.getElem?_cons_succ, Yld.val, decide_true, decide_false, if_true, if_false, Bool.false_eq_true, Nat.zero_add, Nat.add_zero, and_true, true_and, or_false, Bool.not_true, Bool.not_false, and_self, wBin_add64, wBin_sub64, wIdx_slice, wIdx_array, wNilc_eq, Int.toNat_natCast, Nat.mul_one, Nat.zero_mul, wSt_agg, wSt_int, wSt_bool, wSt_string, wSt_slice, wSt_ptr, wSt_map, wSt_func, stP_cells, bit_one, bit_zero, bit_one', bit_zero', wBin_shr32, wBin_and1, wBin_rem2, wBin_andNot32, wBin_or32, wBin_and32, wBin_shl32, u32_eq_zero, u32_ne_zero, List.length_cons, List.length_nil, Nat.le_refl, Nat.reduceAdd, Nat.reduceMul, Nat.reduceLeDiff, Int.toNat_zero, Int.toNat_one, hi4', hG4, cellP_lit2]
  clear hih4
  have hE4 : Ext H nx H4 (nx2 + 1 + 1) := ⟨by omega, fun q hq => by
    rw [hsame4 q (by omega), hsame3 q (by omega), hEK.get q (by omega)]; exact hEE2.get q hq⟩
  have hgc : gcode i4 es = 0 := by
    unfold fcode at hfc
    split at hfc
    · assumption
    · rename_i h; exact Decidable.of_not_not h
  refine wCall_rule (adj33 hn A es cap _ _ (hS.ext hE4) hes hle hgc) ?_
  rintro _ H5 nx5 ⟨rfl, hE5⟩
  have hnx5 := hE5.le
  have e1 : (u32s (nears es i4)).length = 32 := by rw [u32s_length]; exact nears_len es i4
  have e2 : (u32s (List.replicate 32 0)).length = 32 := by rw [u32s_length]; simp
  have e3 := putL_all (c := u32s (List.replicate 32 0)) (vs := u32s (nears es i4)) (by rw [e1, e2])
  have e4 := oneCells_u32s (nears es i4)
  have hn6 : i4 ≤ 1000000 := by omega
  have hG5 := (hE5.get nx (by omega)).trans hG4
  have hO5 := (hE5.get nx2 (by omega)).trans hO4
  have hP5 := (hE5.get (nx2 + 1) (by omega)).trans hP4
  simp (config := { maxSteps := 2000000 }) (disch := first | omega | assumption | exact shr_lt (by assumption) | exact ndiff32 (by assumption) | exact below_lt (by omega) | fail) only [List.getD_cons_zero, List.getD_cons_succ, wBin_lss, wBin_leq, wBin_gtr, wBin_geq, wBin_eql, wBin_neq, wIf_bool, wGuard_true, wGuard_false, wPick_true, wPick_false, wUn_not, wFld_eq, wExt_eq, wPart_one, wPart_agg, wLen_slice, wLen_string, wNew_eq, wNm_eq, dBox_agg, dBox_int, dBox_slice, dBox_string, dBox_bool, dBox_map, dBox_ptr, oneCells, wLd_none, wLd_2, wLd_3, wLd_32, ldP_cells, ldP_rom, cellP_one, getH_same, getH_ne, forceV_eq, forceN_eq, hsK_eq, Option.elim_some, List.getElem?_cons_zero, List.getElem?_cons_succ, Yld.val, decide_true, decide_false, if_true, if_false, Bool.false_eq_true, Nat.zero_add, Nat.add_zero, and_true, true_and, or_false, Bool.not_true, Bool.not_false, and_self, wBin_add64, wBin_sub64, wIdx_slice, wIdx_array, wNilc_eq, Int.toNat_natCast, Nat.mul_one, Nat.zero_mul, wSt_agg, wSt_int, wSt_bool, wSt_string, wSt_slice, wSt_ptr, wSt_map, wSt_func, stP_cells, bit_one, bit_zero, bit_one', bit_zero', wBin_shr32, wBin_and1, wBin_rem2, wBin_andNot32, wBin_or32, wBin_and32, wBin_shl32, u32_eq_zero, u32_ne_zero, List.length_cons, List.length_nil, Nat.le_refl, Nat.reduceAdd, Nat.reduceMul, Nat.reduceLeDiff, Int.toNat_zero, Int.toNat_one, e1, e2, e3, e4, hG5, dMsl_eq hn6, repeat_bag]
  generalize hK5 : hs (hs (hs H5 nx5 (some (.cells (u32s (List.replicate 32 0)) 0))) nx5 (some (.cells (u32s (nears es i4)) 0))) (nx5 + 1) (some (.cells (bagsC (List.replicate i4 zeroBag)) 0)) = K5
  have hEK5 : Ext H5 nx5 K5 (nx5 + 1 + 1) := by rw [← hK5]; exact (((Ext.self (by omega) : Ext H5 nx5 H5 (nx5 + 1 + 1)).hs (by omega)).hs (by omega)).hs (by omega)
  have m0 : M13 K5 (nx5 + 1 + 1) nx5 (nx5 + 1) (nears es i4) (List.replicate i4 zeroBag) K5 := by
    refine ⟨?_, ?_, fun _ _ _ _ => rfl⟩
    · rw [← hK5, getH_ne _ (by omega), getH_same]
    · rw [← hK5, getH_same]
  have hG6 := (hEK5.get nx (by omega)).trans hG5
  have hO6 := (hEK5.get nx2 (by omega)).trans hO5
  have hP6 := (hEK5.get (nx2 + 1) (by omega)).trans hP5
  have hEE5 : Ext H nx K5 (nx5 + 1 + 1) := (hE4.trans hE5).trans hEK5
  -- the elimination
  refine wLoop_rule (m := i4) (fun m L H' nx' => ∃ (i : Nat) (nl : List Nat) (out : List Bag) (N : Nb), m + i = i4 ∧ L = [.int .i64 (i : Int)] ∧ M13 K5 (nx5 + 1 + 1) nx5 (nx5 + 1) nl out H' ∧ nl.length = 32 ∧ (∀ a ∈ order.drop i, nl[a]? = some (maskOf (keyB N a (order.drop i)) i4)) ∧ NbOK N ∧ out.length = i4 ∧
    outs i4 out N (order.drop i) = outs i4 (List.replicate i4 zeroBag) (adj es) order ∧ nx5 + 1 + 1 ≤ nx') ?_ ⟨0, nears es i4, List.replicate i4 zeroBag, adj es, rfl, rfl, m0, nears_len es i4, fun a ha => by
      have ha2 : a ∈ order := ha
      rw [nears_get es hn (holt a ha2)]
      congr 1
      refine maskOf_congr fun w hw => ?_
      have := order_all hond holt holen hw
      simp [keyB, this], adj_ok es, by simp, rfl, Nat.le_refl _⟩
  rintro m7 ih7 L7 H7 nx7 ⟨j, nl, out, N, hm7, rfl, hM, hnll, hnv, hNb, hol, hout, hx7⟩ hih7
  simp (config := { maxSteps := 2000000 }) (disch := first | omega | assumption | exact shr_lt (by assumption) | exact ndiff32 (by assumption) | exact below_lt (by omega) | fail) only [List.getD_cons_zero, List.getD_cons_succ, wBin_lss, wBin_leq, wBin_gtr, wBin_geq, wBin_eql, wBin_neq, wIf_bool, wGuard_true, wGuard_false, wPick_true, wPick_false, wUn_not, wFld_eq, wExt_eq, wPart_one, wPart_agg, wLen_slice, wLen_string, wNew_eq, wNm_eq, dBox_agg, dBox_int, dBox_slice, dBox_string, dBox_bool, dBox_map, dBox_ptr, oneCells, wLd_none, wLd_2, wLd_3, wLd_32, ldP_cells, ldP_rom, cellP_one, getH_same, getH_ne, forceV_eq, forceN_eq, hsK_eq, Option.elim_some, List.getElem?_cons_zero, List.getElem?_cons_succ, Yld.val, decide_true, decide_false, if_true, if_false, Bool.false_eq_true, Nat.zero_add, Nat.add_zero, and_true, true_and, or_false, Bool.not_true, Bool.not_false, and_self, wBin_add64, wBin_sub64, wIdx_slice, wIdx_array, wNilc_eq, Int.toNat_natCast, Nat.mul_one, Nat.zero_mul, wSt_agg, wSt_int, wSt_bool, wSt_string, wSt_slice, wSt_ptr, wSt_map, wSt_func, stP_cells, bit_one, bit_zero, bit_one', bit_zero', wBin_shr32, wBin_and1, wBin_rem2, wBin_andNot32, wBin_or32, wBin_and32, wBin_shl32, u32_eq_zero, u32_ne_zero, List.length_cons, List.length_nil, Nat.le_refl, Nat.reduceAdd, Nat.reduceMul, Nat.reduceLeDiff, Int.toNat_zero, Int.toNat_one]
  by_cases hj : j < i4
  case neg =>
    have hj' : ¬ (j : Int) < (i4 : Int) := by omega
    simp (config := { maxSteps := 2000000 }) (disch := first | omega | assumption | exact shr_lt (by assumption) | exact ndiff32 (by assumption) | exact below_lt (by omega) | fail) only [List.getD_cons_zero, List.getD_cons_succ, wBin_lss, wBin_leq, wBin_gtr, wBin_geq, wBin_eql, wBin_neq, wIf_bool, wGuard_true, wGuard_false, wPick_true, wPick_false, wUn_not, wFld_eq, wExt_eq, wPart_one, wPart_agg, wLen_slice, wLen_string, wNew_eq, wNm_eq, dBox_agg, dBox_int, dBox_slice, dBox_string, dBox_bool, dBox_map, dBox_ptr, oneCells, wLd_none, wLd_2, wLd_3, wLd_32, ldP_cells, ldP_rom, cellP_one, getH_same, getH_ne, forceV_eq, forceN_eq, hsK_eq, Option.elim_some, List.getElem?_cons_zero, List.getElem?_cons_succ, Yld.val, decide_true, decide_false, if_true, if_false, Bool.false_eq_true, Nat.zero_add, Nat.add_zero, and_true, true_and, or_false, Bool.not_true, Bool.not_false, and_self, wBin_add64, wBin_sub64, wIdx_slice, wIdx_array, wNilc_eq, Int.toNat_natCast, Nat.mul_one, Nat.zero_mul, wSt_agg, wSt_int, wSt_bool, wSt_string, wSt_slice, wSt_ptr, wSt_map, wSt_func, stP_cells, bit_one, bit_zero, bit_one', bit_zero', wBin_shr32, wBin_and1, wBin_rem2, wBin_andNot32, wBin_or32, wBin_and32, wBin_shl32, u32_eq_zero, u32_ne_zero, List.length_cons, List.length_nil, Nat.le_refl, Nat.reduceAdd, Nat.reduceMul, Nat.reduceLeDiff, Int.toNat_zero, Int.toNat_one, hj']
    rw [List.drop_of_length_le (by omega)] at hout
    refine good ⟨by have := hEE5.le; omega, fun q hq => by rw [hM.same q (by have := hEE5.le; omega) (by omega) (by omega)]; exact hEE5.get q hq⟩ (.inr ⟨hpok, order, hord, hond, holt, holen, _, rfl, fun q u hu => ⟨nx5 + 1, 0, bagsC out, rfl, by omega, by rw [rowOf, hM.out]; rfl, ?_⟩⟩)
    rw [Nat.zero_add]
    have : out = outs i4 (List.replicate i4 zeroBag) (adj es) order := hout
    rw [this]; exact hu
  have hj' : (j : Int) < (i4 : Int) := by omega
  obtain ⟨v, hv⟩ : ∃ v, order[j]? = some v := ⟨_, List.getElem?_eq_getElem (by omega)⟩
  have hvn : v < i4 := holt v (List.mem_of_getElem? hv)
  have hdrop := drop_get hv
  generalize hrest : order.drop (j + 1) = rest at hdrop
  have hvr : v ∉ rest := by rw [← hrest]; exact not_mem_drop hond hv
  rw [hdrop] at hnv hout
  have hO7 := (hM.same nx2 (by omega) (by omega) (by omega)).trans hO6
  have hP7 := (hM.same (nx2 + 1) (by omega) (by omega) (by omega)).trans hP6
  have hG7 := (hM.same nx (by omega) (by omega) (by omega)).trans hG6
  have gv7 := i64s_get (hon j v hv)
  have hkv := hnv v List.mem_cons_self
  rw [key_self hNb] at hkv
  have gk7 := u32s_get hkv
  have hbld : ∀ kk, wBuild [.int .i64 0, .int .u32 0, .int .i64 0] [(0, 1), (1, 1), (2, 1)] [(0, .int .i64 (v : Int)), (1, .int .u32 ((maskOf (keyB N v rest) i4 : Nat) : Int)), (2, .int .i64 (-1))] kk = kk (.agg ⟨[.int .i64 (v : Int), .int .u32 ((maskOf (keyB N v rest) i4 : Nat) : Int), .int .i64 (-1)]⟩) := fun _ => rfl
  simp (config := { maxSteps := 2000000 }) (disch := first | omega | assumption | exact shr_lt (by assumption) | exact ndiff32 (by assumption) | exact below_lt (by omega) | fail) only [List.getD_cons_zero, List.getD_cons_succ, wBin_lss, wBin_leq, wBin_gtr, wBin_geq, wBin_eql, wBin_neq, wIf_bool, wGuard_true, wGuard_false, wPick_true, wPick_false, wUn_not, wFld_eq, wExt_eq, wPart_one, wPart_agg, wLen_slice, wLen_string, wNew_eq, wNm_eq, dBox_agg, dBox_int, dBox_slice, dBox_string, dBox_bool, dBox_map, dBox_ptr, oneCells, wLd_none, wLd_2, wLd_3, wLd_32, ldP_cells, ldP_rom, cellP_one, getH_same, getH_ne, forceV_eq, forceN_eq, hsK_eq, Option.elim_some, List.getElem?_cons_zero, List.getElem?_cons_succ, Yld.val, decide_true, decide_false, if_true, if_false, Bool.false_eq_true, Nat.zero_add, Nat.add_zero, and_true, true_and, or_false, Bool.not_true, Bool.not_false, and_self, wBin_add64, wBin_sub64, wIdx_slice, wIdx_array, wNilc_eq, Int.toNat_natCast, Nat.mul_one, Nat.zero_mul, wSt_agg, wSt_int, wSt_bool, wSt_string, wSt_slice, wSt_ptr, wSt_map, wSt_func, stP_cells, bit_one, bit_zero, bit_one', bit_zero', wBin_shr32, wBin_and1, wBin_rem2, wBin_andNot32, wBin_or32, wBin_and32, wBin_shl32, u32_eq_zero, u32_ne_zero, List.length_cons, List.length_nil, Nat.le_refl, Nat.reduceAdd, Nat.reduceMul, Nat.reduceLeDiff, Int.toNat_zero, Int.toNat_one, hj', hO7, gv7, hM.near, gk7, hbld, putL_lit3, hG7]
  have hkey32 := maskOf32 hn (keyB N v rest)
  generalize hHB : hs (hs H7 nx7 (some (.cells [.int .i64 0, .int .u32 0, .int .i64 0] 0))) nx7 (some (.cells [.int .i64 (v : Int), .int .u32 ((maskOf (keyB N v rest) i4 : Nat) : Int), .int .i64 (-1)] 0)) = HB
  have mB : M13 K5 (nx5 + 1 + 1) nx5 (nx5 + 1) nl out HB := by rw [← hHB]; exact (hM.setNew hx7 (by omega) (by omega) _).setNew hx7 (by omega) (by omega) _
  have gB : getH HB nx7 = some (.cells [.int .i64 (v : Int), .int .u32 ((maskOf (keyB N v rest) i4 : Nat) : Int), .int .i64 (-1)] 0) := by rw [← hHB, getH_same]
  refine wLoop_rule (m := i4) (fun m L H' nx' => ∃ (u : Nat) (nl : List Nat) (par : Int), m + u = i4 ∧ L = [.int .i64 (u : Int)] ∧ M13 K5 (nx5 + 1 + 1) nx5 (nx5 + 1) nl out H' ∧ getH H' nx7 = some (.cells [.int .i64 (v : Int), .int .u32 ((maskOf (keyB N v rest) i4 : Nat) : Int), .int .i64 par] 0) ∧ nl.length = 32 ∧
    (∀ a ∈ rest, nl[a]? = some (maskOf (if a < u then keyB (stepN N v rest) a rest else keyB N a (v :: rest)) i4)) ∧ ParI N v order rest u par ∧ nx7 + 1 ≤ nx') ?_ ⟨0, nl, -1, rfl, rfl, mB, gB, hnll, fun a ha => by rw [hnv a (List.mem_cons_of_mem _ ha)]; simp, .inl ⟨rfl, fun w h => by omega⟩, Nat.le_refl _⟩
  rintro m8 ih8 L8 H8 nx8 ⟨u, nl8, par, hm8, rfl, hM8, gB8, hnl8, hnv8, hpar, hx8⟩ hih8
  simp (config := { maxSteps := 2000000 }) (disch := first | omega | assumption | exact shr_lt (by assumption) | exact ndiff32 (by assumption) | exact below_lt (by omega) | fail) only [List.getD_cons_zero, List.getD_cons_succ, wBin_lss, wBin_leq, wBin_gtr, wBin_geq, wBin_eql, wBin_neq, wIf_bool, wGuard_true, wGuard_false, wPick_true, wPick_false, wUn_not, wFld_eq, wExt_eq, wPart_one, wPart_agg, wLen_slice, wLen_string, wNew_eq, wNm_eq, dBox_agg, dBox_int, dBox_slice, dBox_string, dBox_bool, dBox_map, dBox_ptr, oneCells, wLd_none, wLd_2, wLd_3, wLd_32, ldP_cells, ldP_rom, cellP_one, getH_same, getH_ne, forceV_eq, forceN_eq, hsK_eq, Option.elim_some, List.getElem?_cons_zero, List.getElem?_cons_succ, Yld.val, decide_true, decide_false, if_true, if_false, Bool.false_eq_true, Nat.zero_add, Nat.add_zero, and_true, true_and, or_false, Bool.not_true, Bool.not_false, and_self, wBin_add64, wBin_sub64, wIdx_slice, wIdx_array, wNilc_eq, Int.toNat_natCast, Nat.mul_one, Nat.zero_mul, wSt_agg, wSt_int, wSt_bool, wSt_string, wSt_slice, wSt_ptr, wSt_map, wSt_func, stP_cells, bit_one, bit_zero, bit_one', bit_zero', wBin_shr32, wBin_and1, wBin_rem2, wBin_andNot32, wBin_or32, wBin_and32, wBin_shl32, u32_eq_zero, u32_ne_zero, List.length_cons, List.length_nil, Nat.le_refl, Nat.reduceAdd, Nat.reduceMul, Nat.reduceLeDiff, Int.toNat_zero, Int.toNat_one]
  by_cases hu : u < i4
  case neg =>
    have hu' : ¬ (u : Int) < (i4 : Int) := by omega
    have hui : u = i4 := by omega
    subst hui
    have hpe : par = parB N v rest := by rw [← hrest] at hpar ⊢; exact par_min hond holt hpar
    have hset : putL (bagsC out) (v * 3) [.int .i64 (v : Int), .int .u32 ((maskOf (keyB N v rest) u : Nat) : Int), .int .i64 par] = bagsC (out.set v (bagOf u N v rest)) := by
      rw [hpe]; exact bagsC_set (b := bagOf u N v rest) (by omega)
    have hbl : (bagsC out).length = u * 3 := by rw [bagsC_length, hol]
    simp (config := { maxSteps := 2000000 }) (disch := first | omega | assumption | exact shr_lt (by assumption) | exact ndiff32 (by assumption) | exact below_lt (by omega) | fail) only [List.getD_cons_zero, List.getD_cons_succ, wBin_lss, wBin_leq, wBin_gtr, wBin_geq, wBin_eql, wBin_neq, wIf_bool, wGuard_true, wGuard_false, wPick_true, wPick_false, wUn_not, wFld_eq, wExt_eq, wPart_one, wPart_agg, wLen_slice, wLen_string, wNew_eq, wNm_eq, dBox_agg, dBox_int, dBox_slice, dBox_string, dBox_bool, dBox_map, dBox_ptr, oneCells, wLd_none, wLd_2, wLd_3, wLd_32, ldP_cells, ldP_rom, cellP_one, getH_same, getH_ne, forceV_eq, forceN_eq, hsK_eq, Option.elim_some, List.getElem?_cons_zero, List.getElem?_cons_succ, Yld.val, decide_true, decide_false, if_true, if_false, Bool.false_eq_true, Nat.zero_add, Nat.add_zero, and_true, true_and, or_false, Bool.not_true, Bool.not_false, and_self, wBin_add64, wBin_sub64, wIdx_slice, wIdx_array, wNilc_eq, Int.toNat_natCast, Nat.mul_one, Nat.zero_mul, wSt_agg, wSt_int, wSt_bool, wSt_string, wSt_slice, wSt_ptr, wSt_map, wSt_func, stP_cells, bit_one, bit_zero, bit_one', bit_zero', wBin_shr32, wBin_and1, wBin_rem2, wBin_andNot32, wBin_or32, wBin_and32, wBin_shl32, u32_eq_zero, u32_ne_zero, List.length_cons, List.length_nil, Nat.le_refl, Nat.reduceAdd, Nat.reduceMul, Nat.reduceLeDiff, Int.toNat_zero, Int.toNat_one, hu', gB8, cellP_lit3, hM8.out, hset, hbl]
    refine ⟨by omega, hih7 (m7 - 1) _ _ _ (by omega) ⟨j + 1, nl8, _, stepN N v rest, by omega, by simp, hM8.setOut (by omega) _, hnl8, fun a ha => ?_, step_ok hNb v rest, by rw [List.length_set]; exact hol, by rw [hrest, ← hout]; rfl, by omega⟩⟩
    rw [hrest] at ha ⊢
    have han : a < u := holt a (List.mem_of_mem_drop (hrest ▸ ha))
    rw [hnv8 a ha, if_pos han]
  have hu' : (u : Int) < (i4 : Int) := by omega
  have kbit : (maskOf (keyB N v rest) i4).testBit u = keyB N v rest u := by rw [maskOf_bit]; simp [hu]
  simp (config := { maxSteps := 2000000 }) (disch := first | omega | assumption | exact shr_lt (by assumption) | exact ndiff32 (by assumption) | exact below_lt (by omega) | fail) only [List.getD_cons_zero, List.getD_cons_succ, wBin_lss, wBin_leq, wBin_gtr, wBin_geq, wBin_eql, wBin_neq, wIf_bool, wGuard_true, wGuard_false, wPick_true, wPick_false, wUn_not, wFld_eq, wExt_eq, wPart_one, wPart_agg, wLen_slice, wLen_string, wNew_eq, wNm_eq, dBox_agg, dBox_int, dBox_slice, dBox_string, dBox_bool, dBox_map, dBox_ptr, oneCells, wLd_none, wLd_2, wLd_3, wLd_32, ldP_cells, ldP_rom, cellP_one, getH_same, getH_ne, forceV_eq, forceN_eq, hsK_eq, Option.elim_some, List.getElem?_cons_zero, List.getElem?_cons_succ, Yld.val, decide_true, decide_false, if_true, if_false, Bool.false_eq_true, Nat.zero_add, Nat.add_zero, and_true, true_and, or_false, Bool.not_true, Bool.not_false, and_self, wBin_add64, wBin_sub64, wIdx_slice, wIdx_array, wNilc_eq, Int.toNat_natCast, Nat.mul_one, Nat.zero_mul, wSt_agg, wSt_int, wSt_bool, wSt_string, wSt_slice, wSt_ptr, wSt_map, wSt_func, stP_cells, bit_one, bit_zero, bit_one', bit_zero', wBin_shr32, wBin_and1, wBin_rem2, wBin_andNot32, wBin_or32, wBin_and32, wBin_shl32, u32_eq_zero, u32_ne_zero, List.length_cons, List.length_nil, Nat.le_refl, Nat.reduceAdd, Nat.reduceMul, Nat.reduceLeDiff, Int.toNat_zero, Int.toNat_one, hu', gB8]
  rw [wJoin_eq, kbit]
  cases hk : keyB N v rest u with
  | false =>
    simp (config := { maxSteps := 2000000 }) (disch := first | omega | assumption | exact shr_lt (by assumption) | exact ndiff32 (by assumption) | exact below_lt (by omega) | fail) only [List.getD_cons_zero, List.getD_cons_succ, wBin_lss, wBin_leq, wBin_gtr, wBin_geq, wBin_eql, wBin_neq, wIf_bool, wGuard_true, wGuard_false, wPick_true, wPick_false, wUn_not, wFld_eq, wExt_eq, wPart_one, wPart_agg, wLen_slice, wLen_string, wNew_eq, wNm_eq, dBox_agg, dBox_int, dBox_slice, dBox_string, dBox_bool, dBox_map, dBox_ptr, oneCells, wLd_none, wLd_2, wLd_3, wLd_32, ldP_cells, ldP_rom, cellP_one, getH_same, getH_ne, forceV_eq, forceN_eq, hsK_eq, Option.elim_some, List.getElem?_cons_zero, List.getElem?_cons_succ, Yld.val, decide_true, decide_false, if_true, if_false, Bool.false_eq_true, Nat.zero_add, Nat.add_zero, and_true, true_and, or_false, Bool.not_true, Bool.not_false, and_self, wBin_add64, wBin_sub64, wIdx_slice, wIdx_array, wNilc_eq, Int.toNat_natCast, Nat.mul_one, Nat.zero_mul, wSt_agg, wSt_int, wSt_bool, wSt_string, wSt_slice, wSt_ptr, wSt_map, wSt_func, stP_cells, bit_one, bit_zero, bit_one', bit_zero', wBin_shr32, wBin_and1, wBin_rem2, wBin_andNot32, wBin_or32, wBin_and32, wBin_shl32, u32_eq_zero, u32_ne_zero, List.length_cons, List.length_nil, Nat.le_refl, Nat.reduceAdd, Nat.reduceMul, Nat.reduceLeDiff, Int.toNat_zero, Int.toNat_one]
    refine hih8 (m8 - 1) _ _ _ (by omega) ⟨u + 1, nl8, par, by omega, by simp, hM8, gB8, hnl8, fun a ha => ?_, ?_, hx8⟩
    · rw [hnv8 a ha]
      by_cases h1 : a < u
      · rw [if_pos h1, if_pos (by omega)]
      · rw [if_neg h1]
        by_cases h2 : a = u
        · subst h2; rw [if_pos (by omega), nb_skip hNb ha hk]
        · rw [if_neg (by omega)]
    · rcases hpar with ⟨h1, h2⟩ | ⟨p, jp, h1, h2, h3, h4⟩
      · refine .inl ⟨h1, fun w hw => ?_⟩
        by_cases hwu : w = u
        · subst hwu; exact hk
        · exact h2 w (by omega)
      · refine .inr ⟨p, jp, h1, h2, h3, fun w jw hw hjw hkw => ?_⟩
        by_cases hwu : w = u
        · subst hwu; rw [hk] at hkw; cases hkw
        · exact h4 w jw (by omega) hjw hkw
  | true =>
    simp (config := { maxSteps := 2000000 }) (disch := first | omega | assumption | exact shr_lt (by assumption) | exact ndiff32 (by assumption) | exact below_lt (by omega) | fail) only [List.getD_cons_zero, List.getD_cons_succ, wBin_lss, wBin_leq, wBin_gtr, wBin_geq, wBin_eql, wBin_neq, wIf_bool, wGuard_true, wGuard_false, wPick_true, wPick_false, wUn_not, wFld_eq, wExt_eq, wPart_one, wPart_agg, wLen_slice, wLen_string, wNew_eq, wNm_eq, dBox_agg, dBox_int, dBox_slice, dBox_string, dBox_bool, dBox_map, dBox_ptr, oneCells, wLd_none, wLd_2, wLd_3, wLd_32, ldP_cells, ldP_rom, cellP_one, getH_same, getH_ne, forceV_eq, forceN_eq, hsK_eq, Option.elim_some, List.getElem?_cons_zero, List.getElem?_cons_succ, Yld.val, decide_true, decide_false, if_true, if_false, Bool.false_eq_true, Nat.zero_add, Nat.add_zero, and_true, true_and, or_false, Bool.not_true, Bool.not_false, and_self, wBin_add64, wBin_sub64, wIdx_slice, wIdx_array, wNilc_eq, Int.toNat_natCast, Nat.mul_one, Nat.zero_mul, wSt_agg, wSt_int, wSt_bool, wSt_string, wSt_slice, wSt_ptr, wSt_map, wSt_func, stP_cells, bit_one, bit_zero, bit_one', bit_zero', wBin_shr32, wBin_and1, wBin_rem2, wBin_andNot32, wBin_or32, wBin_and32, wBin_shl32, u32_eq_zero, u32_ne_zero, List.length_cons, List.length_nil, Nat.le_refl, Nat.reduceAdd, Nat.reduceMul, Nat.reduceLeDiff, Int.toNat_zero, Int.toNat_one]
    have hur : u ∈ rest := by simp [keyB] at hk; exact hk.2
    obtain ⟨ju, hju⟩ : ∃ ju, order[ju]? = some u := List.getElem?_of_mem (List.mem_of_mem_drop (hrest ▸ hur))
    have hP8 := (hM8.same (nx2 + 1) (by omega) (by omega) (by omega)).trans hP6
    have gu := i64s_get (hpv ju u hju (by have := lt_len hju; omega))
    refine wJoin_rule (fun L H' nx' => ∃ par', L = [] ∧ M13 K5 (nx5 + 1 + 1) nx5 (nx5 + 1) nl8 out H' ∧ getH H' nx7 = some (.cells [.int .i64 (v : Int), .int .u32 ((maskOf (keyB N v rest) i4 : Nat) : Int), .int .i64 par'] 0) ∧ ParI N v order rest (u + 1) par' ∧ nx7 + 1 ≤ nx') ?_ ?_
    · intro jk hjk
      rw [wJoin_eq]
      have hput : ∀ a b c x : Value, putL [a, b, c] 2 [x] = [a, b, x] := fun _ _ _ _ => rfl
      have hnew : ParI N v order rest (u + 1) u → ∀ nx', nx7 + 1 ≤ nx' → jk [] (hs H8 nx7 (some (.cells [.int .i64 (v : Int), .int .u32 ((maskOf (keyB N v rest) i4 : Nat) : Int), .int .i64 (u : Int)] 0))) nx' :=
        fun h nx' hx => hjk _ _ _ ⟨u, rfl, hM8.setNew hx7 (by omega) (by omega) _, getH_same _ _ _, h, hx⟩
      rcases hpar with ⟨rfl, h2⟩ | ⟨p, jp, rfl, h2, h3, h4⟩
      · have hneg : (-1 : Int) < 0 := by omega
        simp (config := { maxSteps := 2000000 }) (disch := first | omega | assumption | exact shr_lt (by assumption) | exact ndiff32 (by assumption) | exact below_lt (by omega) | fail) only [List.getD_cons_zero, List.getD_cons_succ, wBin_lss, wBin_leq, wBin_gtr, wBin_geq, wBin_eql, wBin_neq, wIf_bool, wGuard_true, wGuard_false, wPick_true, wPick_false, wUn_not, wFld_eq, wExt_eq, wPart_one, wPart_agg, wLen_slice, wLen_string, wNew_eq, wNm_eq, dBox_agg, dBox_int, dBox_slice, dBox_string, dBox_bool, dBox_map, dBox_ptr, oneCells, wLd_none, wLd_2, wLd_3, wLd_32, ldP_cells, ldP_rom, cellP_one, getH_same, getH_ne, forceV_eq, forceN_eq, hsK_eq, Option.elim_some, List.getElem?_cons_zero, List.getElem?_cons_succ, Yld.val, decide_true, decide_false, if_true, if_false, Bool.false_eq_true, Nat.zero_add, Nat.add_zero, and_true, true_and, or_false, Bool.not_true, Bool.not_false, and_self, wBin_add64, wBin_sub64, wIdx_slice, wIdx_array, wNilc_eq, Int.toNat_natCast, Nat.mul_one, Nat.zero_mul, wSt_agg, wSt_int, wSt_bool, wSt_string, wSt_slice, wSt_ptr, wSt_map, wSt_func, stP_cells, bit_one, bit_zero, bit_one', bit_zero', wBin_shr32, wBin_and1, wBin_rem2, wBin_andNot32, wBin_or32, wBin_and32, wBin_shl32, u32_eq_zero, u32_ne_zero, List.length_cons, List.length_nil, Nat.le_refl, Nat.reduceAdd, Nat.reduceMul, Nat.reduceLeDiff, Int.toNat_zero, Int.toNat_one, gB8, hneg, hput]
        refine hnew (.inr ⟨u, ju, rfl, hju, hk, fun w jw hw hjw hkw => ?_⟩) _ (by omega)
        by_cases hwu : w = u
        · subst hwu; rw [nodup_at hond hju hjw]; exact Nat.le_refl _
        · rw [h2 w (by omega)] at hkw; cases hkw
      · have hpn : ¬ (p : Int) < 0 := by omega
        have hp4 : p < i4 := holt p (List.mem_of_getElem? h2)
        have gp := i64s_get (hpv jp p h2 (by have := lt_len h2; omega))
        by_cases hlt : ju < jp
        · have hlt' : (ju : Int) < (jp : Int) := by omega
          simp (config := { maxSteps := 2000000 }) (disch := first | omega | assumption | exact shr_lt (by assumption) | exact ndiff32 (by assumption) | exact below_lt (by omega) | fail) only [List.getD_cons_zero, List.getD_cons_succ, wBin_lss, wBin_leq, wBin_gtr, wBin_geq, wBin_eql, wBin_neq, wIf_bool, wGuard_true, wGuard_false, wPick_true, wPick_false, wUn_not, wFld_eq, wExt_eq, wPart_one, wPart_agg, wLen_slice, wLen_string, wNew_eq, wNm_eq, dBox_agg, dBox_int, dBox_slice, dBox_string, dBox_bool, dBox_map, dBox_ptr, oneCells, wLd_none, wLd_2, wLd_3, wLd_32, ldP_cells, ldP_rom, cellP_one, getH_same, getH_ne, forceV_eq, forceN_eq, hsK_eq, Option.elim_some, List.getElem?_cons_zero, List.getElem?_cons_succ, Yld.val, decide_true, decide_false, if_true, if_false, Bool.false_eq_true, Nat.zero_add, Nat.add_zero, and_true, true_and, or_false, Bool.not_true, Bool.not_false, and_self, wBin_add64, wBin_sub64, wIdx_slice, wIdx_array, wNilc_eq, Int.toNat_natCast, Nat.mul_one, Nat.zero_mul, wSt_agg, wSt_int, wSt_bool, wSt_string, wSt_slice, wSt_ptr, wSt_map, wSt_func, stP_cells, bit_one, bit_zero, bit_one', bit_zero', wBin_shr32, wBin_and1, wBin_rem2, wBin_andNot32, wBin_or32, wBin_and32, wBin_shl32, u32_eq_zero, u32_ne_zero, List.length_cons, List.length_nil, Nat.le_refl, Nat.reduceAdd, Nat.reduceMul, Nat.reduceLeDiff, Int.toNat_zero, Int.toNat_one, gB8, hpn, hP8, gu, gp, hlt', hput]
          refine hnew (.inr ⟨u, ju, rfl, hju, hk, fun w jw hw hjw hkw => ?_⟩) _ (by omega)
          by_cases hwu : w = u
          · subst hwu; rw [nodup_at hond hju hjw]; exact Nat.le_refl _
          · have := h4 w jw (by omega) hjw hkw; omega
        · have hlt' : ¬ (ju : Int) < (jp : Int) := by omega
          simp (config := { maxSteps := 2000000 }) (disch := first | omega | assumption | exact shr_lt (by assumption) | exact ndiff32 (by assumption) | exact below_lt (by omega) | fail) only [List.getD_cons_zero, List.getD_cons_succ, wBin_lss, wBin_leq, wBin_gtr, wBin_geq, wBin_eql, wBin_neq, wIf_bool, wGuard_true, wGuard_false, wPick_true, wPick_false, wUn_not, wFld_eq, wExt_eq, wPart_one, wPart_agg, wLen_slice, wLen_string, wNew_eq, wNm_eq, dBox_agg, dBox_int, dBox_slice, dBox_string, dBox_bool, dBox_map, dBox_ptr, oneCells, wLd_none, wLd_2, wLd_3, wLd_32, ldP_cells, ldP_rom, cellP_one, getH_same, getH_ne, forceV_eq, forceN_eq, hsK_eq, Option.elim_some, List.getElem?_cons_zero, List.getElem?_cons_succ, Yld.val, decide_true, decide_false, if_true, if_false, Bool.false_eq_true, Nat.zero_add, Nat.add_zero, and_true, true_and, or_false, Bool.not_true, Bool.not_false, and_self, wBin_add64, wBin_sub64, wIdx_slice, wIdx_array, wNilc_eq, Int.toNat_natCast, Nat.mul_one, Nat.zero_mul, wSt_agg, wSt_int, wSt_bool, wSt_string, wSt_slice, wSt_ptr, wSt_map, wSt_func, stP_cells, bit_one, bit_zero, bit_one', bit_zero', wBin_shr32, wBin_and1, wBin_rem2, wBin_andNot32, wBin_or32, wBin_and32, wBin_shl32, u32_eq_zero, u32_ne_zero, List.length_cons, List.length_nil, Nat.le_refl, Nat.reduceAdd, Nat.reduceMul, Nat.reduceLeDiff, Int.toNat_zero, Int.toNat_one, gB8, hpn, hP8, gu, gp, hlt']
          refine hjk _ _ _ ⟨p, rfl, hM8, gB8, .inr ⟨p, jp, rfl, h2, h3, fun w jw hw hjw hkw => ?_⟩, by omega⟩
          by_cases hwu : w = u
          · subst hwu; rw [← nodup_at hond hju hjw]; omega
          · exact h4 w jw (by omega) hjw hkw
    · rintro _ H9 nx9 ⟨par', rfl, hM9, gB9, hpar9, hx9⟩
      have hcur := hnv8 u hur
      rw [if_neg (by omega)] at hcur
      have gcur := u32s_get hcur
      have hc32 := maskOf32 hn (keyB N u (v :: rest))
      have hu32 : 2 ^ u < 4294967296 := pow32 (by omega)
      have hv32 : 2 ^ v < 4294967296 := pow32 (by omega)
      have ho1 := or32 hc32 hkey32
      have ho2 := or32 hu32 hv32
      have hul : u < nl8.length := by omega
      have hlen9 : (u32s nl8).length = 32 := by rw [u32s_length]; exact hnl8
      have hnb := nb_step hNb (n := i4) hvr hk
      simp (config := { maxSteps := 2000000 }) (disch := first | omega | assumption | exact shr_lt (by assumption) | exact ndiff32 (by assumption) | exact below_lt (by omega) | fail) only [List.getD_cons_zero, List.getD_cons_succ, wBin_lss, wBin_leq, wBin_gtr, wBin_geq, wBin_eql, wBin_neq, wIf_bool, wGuard_true, wGuard_false, wPick_true, wPick_false, wUn_not, wFld_eq, wExt_eq, wPart_one, wPart_agg, wLen_slice, wLen_string, wNew_eq, wNm_eq, dBox_agg, dBox_int, dBox_slice, dBox_string, dBox_bool, dBox_map, dBox_ptr, oneCells, wLd_none, wLd_2, wLd_3, wLd_32, ldP_cells, ldP_rom, cellP_one, getH_same, getH_ne, forceV_eq, forceN_eq, hsK_eq, Option.elim_some, List.getElem?_cons_zero, List.getElem?_cons_succ, Yld.val, decide_true, decide_false, if_true, if_false, Bool.false_eq_true, Nat.zero_add, Nat.add_zero, and_true, true_and, or_false, Bool.not_true, Bool.not_false, and_self, wBin_add64, wBin_sub64, wIdx_slice, wIdx_array, wNilc_eq, Int.toNat_natCast, Nat.mul_one, Nat.zero_mul, wSt_agg, wSt_int, wSt_bool, wSt_string, wSt_slice, wSt_ptr, wSt_map, wSt_func, stP_cells, bit_one, bit_zero, bit_one', bit_zero', wBin_shr32, wBin_and1, wBin_rem2, wBin_andNot32, wBin_or32, wBin_and32, wBin_shl32, u32_eq_zero, u32_ne_zero, List.length_cons, List.length_nil, Nat.le_refl, Nat.reduceAdd, Nat.reduceMul, Nat.reduceLeDiff, Int.toNat_zero, Int.toNat_one, hM9.near, gcur, gB9, putL_u32s hul, hlen9]
      refine ⟨by omega, hih8 (m8 - 1) _ _ _ (by omega) ⟨u + 1, nl8.set u (ndiff (maskOf (keyB N u (v :: rest)) i4 ||| maskOf (keyB N v rest) i4) (2 ^ u ||| 2 ^ v)), par', by omega, by simp, hM9.setNear (by omega) _, by rw [getH_ne _ (by omega)]; exact gB9, by rw [List.length_set]; exact hnl8, fun a ha => ?_, hpar9, by omega⟩⟩
      rw [List.getElem?_set]
      by_cases h2 : u = a
      · subst h2; rw [if_pos rfl, if_pos hul, if_pos (by omega), hnb]
      · rw [if_neg h2, hnv8 a ha]
        by_cases h1 : a < u
        · rw [if_pos h1, if_pos (by omega)]
        · rw [if_neg h1, if_neg (by omega)]
end Go.Proofs.YtdecggbglnbhlaaGreatDoor
