/-
  The executor as a claim: append to a slice that the function has made.
-/
import Derived.Test.YtdecggbglnbhlaaGreatDoorCloW
set_option linter.unusedSimpArgs false
set_option linter.unusedVariables false
set_option linter.unusedSectionVars false
namespace Go.Clo

/-- A slice of n elements (c: their cells) that was made by append, in a block from lo on. -/
def Acc (lo : Nat) (H : Heap) (nx : Nat) (size : Nat) (v : Value) (n : Nat) (c : List Value) : Prop :=
  c.length = n * size ∧ ((n = 0 ∧ v = .slice none 0 0) ∨ ∃ b, lo ≤ b ∧ b < nx ∧ v = .slice (some ⟨b, 0, none⟩) n n ∧ getH H b = some (.cells c size))
theorem Acc.nil (lo : Nat) (H : Heap) (nx size : Nat) : Acc lo H nx size (.slice none 0 0) 0 [] := ⟨by simp, .inl ⟨rfl, rfl⟩⟩
theorem Acc.ext {lo : Nat} {H : Heap} {nx size : Nat} {v : Value} {n : Nat} {c : List Value} {H' : Heap} {nx' : Nat} (h : Acc lo H nx size v n c) (e : Ext H nx H' nx') : Acc lo H' nx' size v n c := by
  refine ⟨h.1, h.2.imp id ?_⟩
  rintro ⟨b, h1, h2, h3, h4⟩
  exact ⟨b, h1, Nat.lt_of_lt_of_le h2 e.le, h3, by rw [e.get b h2]; exact h4⟩
theorem Acc.sl {lo : Nat} {H : Heap} {nx size : Nat} {v : Value} {n : Nat} {c : List Value} (h : Acc lo H nx size v n c) : ∃ A, v = .slice A n n ∧ Sl H nx A c := by
  obtain ⟨hl, h⟩ := h
  rcases h with ⟨rfl, rfl⟩ | ⟨b, h1, h2, rfl, h4⟩
  · refine ⟨none, rfl, ?_⟩
    simp at hl; subst hl; exact Sl.nil _ _ _
  · refine ⟨_, rfl, fun i u hu => ⟨b, 0, c, rfl, h2, by simp [rowOf, h4, Blk.row], by simpa using hu⟩⟩

theorem bltrue {a b : Nat} (h : a ≤ b) : Nat.ble a b = true := Nat.ble_eq_true_of_le h
theorem blfalse {a b : Nat} (h : b < a) : Nat.ble a b = false := by
  cases hb : Nat.ble a b with
  | false => rfl
  | true => exact absurd (Nat.le_of_ble_eq_true hb) (by omega)
theorem beqtrue (a : Nat) : Nat.beq a a = true := by simp
theorem beqfalse {a b : Nat} (h : a ≠ b) : Nat.beq a b = false := by
  cases hb : Nat.beq a b with
  | false => rfl
  | true => exact absurd (Nat.eq_of_beq_eq_true hb) h

/-- What is appended: m elements, their cells l. -/
structure Src (H : Heap) (size : Nat) (x : Value) (m : Nat) (l : List Value) : Prop where
  len : lenA x = some m
  first : ∀ k : List Value → Prop, firstK H size m x False k = k l
  size : l.length = m * size
theorem src_new {H : Heap} {size b m cap : Nat} {l : List Value} {sl : Nat} (hg : getH H b = some (.cells l sl)) (hl : l.length = m * size) (hm : 0 < m * size) : Src H size (.slice (some ⟨b, 0, none⟩) m cap) m l := by
  refine ⟨rfl, fun k => ?_, hl⟩
  rw [firstK_slice _ _ _ _ _ _ _ _ hm, hg]
  simp only [Option.bind_some, Blk.row]
  simp [← hl]
theorem src_sl {H : Heap} {nx size : Nat} {A : Option Addr} {m cap : Nat} {l : List Value} (h : Sl H nx A l) (hl : l.length = m * size) (hm : 0 < m * size) : Src H size (.slice A m cap) m l := by
  obtain ⟨b, o, row, rfl, hb, hrow, hget⟩ := h.open (i := 0) (by omega)
  refine ⟨rfl, fun k => ?_, hl⟩
  rw [firstK_slice _ _ _ _ _ _ _ _ hm]
  unfold rowOf at hrow
  rw [hrow]
  have := cellP_list (row := row) (o := o) (n := m * size) hl hget (fun v => match v with | .agg a => k a.toList | _ => False) hm
  rw [cellP_agg] at this
  exact this

theorem wApp_acc {lo : Nat} {H : Heap} {nx size bytes : Nat} {v : Value} {n : Nat} {c : List Value} {x : Value} {m : Nat} {l : List Value} {H0 : Heap} {k : EP} (hsz : 0 < size) (hA : Acc lo H nx size v n c) (hx : Src H size x m l) (hm : 0 < m) (ho : oneCells l = true)
    (hb1 : (2 * (n + m) + 1000) * bytes ≤ 281474976710656) (hb2 : n + m ≤ 1000000000) (hE : Ext H0 lo H nx) (hlo : lo ≤ nx)
    (hk : ∀ v' H', Acc lo H' (nx + 1) size v' (n + m) (c ++ l) → Ext H0 lo H' (nx + 1) → (∀ i, i < nx → (∀ A n' c', v = .slice (some A) n' c' → A.block ≠ i) → getH H' i = getH H i) → k v' H' (nx + 1)) : wApp v x size bytes H nx k := by
  obtain ⟨hl, hA⟩ := hA
  have hlen : (c ++ l).length = (n + m) * size := by rw [List.length_append, hl, hx.size, Nat.add_mul]
  unfold wApp appK
  rcases hA with ⟨rfl, rfl⟩ | ⟨b, h1, h2, rfl, h4⟩
  · have hc : c = [] := by simp at hl; exact hl
    subst hc
    rw [hx.len]
    dsimp only
    rw [forceN_eq, bltrue hb1, bltrue hb2]
    simp only [Bool.and_self, cond_true]
    rw [hx.first, ho, blfalse (show 0 < 0 + m by omega)]
    simp only [cond_true, cond_false]
    show spine ([] ++ l) _
    rw [spine_eq]
    have e : ([] ++ l).length = (0 + m) * size := hlen
    rw [e, beqtrue]
    simp only [cond_true, appOut, appNew]
    rw [forceN_eq, forceN_eq, hsK_eq]
    refine hk _ _ ⟨hlen, .inr ⟨nx, hlo, by omega, rfl, getH_same _ _ _⟩⟩ (hE.new _ hlo (by omega)) fun i hi _ => getH_ne _ (by omega)
  · rw [hx.len]
    dsimp only
    rw [forceN_eq, bltrue hb1, bltrue hb2]
    simp only [Bool.and_self, cond_true]
    rw [hx.first, ho, blfalse (show n < n + m by omega)]
    simp only [cond_true, cond_false]
    have hold : ∀ k : List Value → Prop, firstK H size n (.slice (some ⟨b, 0, none⟩) n n) False k = k c := by
      intro k
      rcases Nat.eq_zero_or_pos n with h0 | h0
      · subst h0
        simp at hl; subst hl
        unfold firstK rowK
        dsimp only
        rw [getB_eq, h4]
        simp only [Option.elim_some, Nat.zero_mul, takeN]
        exact spine_eq _ _
      · exact (src_new h4 hl (Nat.mul_pos h0 hsz)).first k
    rw [hold, spine_eq, hlen, beqtrue]
    simp only [cond_true, appOut]
    rw [getB_eq, h4]
    simp only [Option.elim_some]
    have hls : looseA (.cells c size) 0 n size = some true := by
      simp only [looseA]
      rw [beqfalse (show size ≠ 0 by omega), beqtrue]
      simp only [cond_false, cond_true]
      rw [hl, Nat.zero_add, beqtrue]
    rw [hls]
    dsimp only
    rw [hsK_eq]
    simp only [appNew]
    rw [forceN_eq, forceN_eq, hsK_eq]
    refine hk _ _ ⟨hlen, .inr ⟨nx, hlo, by omega, rfl, getH_same _ _ _⟩⟩ ((hE.new _ h1 (Nat.le_refl _)).new _ hlo (by omega)) fun i hi hne => ?_
    rw [getH_ne _ (by omega), getH_ne _ (fun h => hne _ _ _ rfl h.symm)]
end Go.Clo
