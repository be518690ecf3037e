/-
  The closed executor: a run that is written down with names of its own (0, 1, 2, ..), beside any heap that holds the same blocks under other names.
-/
import Derived.Test.YtaiefmkapnekiaaGreatDoorH10
set_option linter.all false
namespace Go.Clo
abbrev Prs := List (Nat × Nat)
/-- Which names stand for which: read off two values of one shape (what it says is checked afterwards). -/
def pairV : Nat → Value → Value → Prs
  | 0, _, _ => []
  | k + 1, v, u => match v, u with
    | .pointer (some a), .pointer (some b) => [(a.block, b.block)]
    | .slice (some a) _ _, .slice (some b) _ _ => [(a.block, b.block)]
    | .map (some r), .map (some s) => [(r, s)]
    | .iface _ v, .iface _ u => pairV k v u
    | .agg x, .agg y => (x.toList.zip y.toList).flatMap fun p => pairV k p.1 p.2
    | .tuple x, .tuple y => (x.toList.zip y.toList).flatMap fun p => pairV k p.1 p.2
    | _, _ => []
def pairL (x y : List Value) : Prs := (x.zip y).flatMap fun p => pairV 8 p.1 p.2
def pairB : Blk → Blk → Prs
  | .cells c _, .cells e _ => pairL c e
  | .map c _, .map e _ => (c.zip e).flatMap fun p => pairV 8 p.1.val p.2.val
  | _, _ => []
def lookP (i : Nat) : Prs → Option Nat
  | [] => none
  | p :: l => cond (Nat.beq p.1 i) (some p.2) (lookP i l)
noncomputable def pairH (H : Heap) : Lit → Prs → Prs
  | [], r => r
  | p :: l, r => match lookP p.1 r with
    | some j => (match getH H j with
      | some b => pairH H l (r ++ pairB p.2 b)
      | none => r)
    | none => r
def namesP (r : Prs) : Nat → Nat → Option (List Nat)
  | 0, _ => some []
  | k + 1, i => match lookP i r, namesP r k (i + 1) with
    | some j, some l => some (j :: l)
    | _, _ => none
def nodupR : List Nat → Bool
  | [] => true
  | x :: l => (l.all fun y => !(Nat.beq x y)) && nodupR l
theorem nodupR_ok : ∀ {l : List Nat}, nodupR l = true → l.Nodup
  | [], _ => List.nodup_nil
  | x :: l, h => by
    simp only [nodupR, Bool.and_eq_true, List.all_eq_true] at h
    refine List.nodup_cons.2 ⟨fun hx => ?_, nodupR_ok h.2⟩
    have := h.1 x hx
    simp at this
def rhoL (l : List Nat) : Nat → Nat := fun i => l.getD i 0
/-- The new blocks, under the names they get. -/
def shiftL (σ : Nat → Nat) (ln : Lit) : Lit := ln.map fun p => (σ p.1, renB σ p.2)
theorem shiftL_get {σ : Nat → Nat} {i : Nat} {b : Blk} : ∀ {ln : Lit}, getH (mkH (shiftL σ ln)) i = some b → ∃ j b0, σ j = i ∧ getH (mkH ln) j = some b0 ∧ b = renB σ b0
  | [], h => by rw [show mkH (shiftL σ []) = Heap.leaf from rfl, getH_leaf] at h; cases h
  | p :: ln, h => by
    rw [show shiftL σ (p :: ln) = (σ p.1, renB σ p.2) :: shiftL σ ln from rfl, mkH_cons] at h
    by_cases e : i = σ p.1
    · rw [if_pos e] at h
      cases h
      exact ⟨p.1, p.2, e.symm, by rw [mkH_cons, if_pos rfl], rfl⟩
    · rw [if_neg e] at h
      obtain ⟨j, b0, h1, h2, h3⟩ := shiftL_get h
      refine ⟨j, b0, h1, ?_, h3⟩
      rw [mkH_cons, if_neg (fun hj => e (by rw [← h1, hj]))]
      exact h2
noncomputable def heldL (H : Heap) (ρ : Nat → Nat) : Lit → Bool
  | [] => true
  | p :: l => match getH H (ρ p.1) with
    | some b => cond (beqB (renB ρ p.2) b) (heldL H ρ l) false
    | none => false
theorem heldL_ok {H : Heap} {ρ : Nat → Nat} : ∀ {l : Lit}, heldL H ρ l = true → ∀ i b, getH (mkH l) i = some b → getH H (ρ i) = some (renB ρ b)
  | [], _, i, b, h => by rw [show mkH [] = Heap.leaf from rfl, getH_leaf] at h; cases h
  | p :: l, h, i, b, hb => by
    rw [heldL] at h
    split at h
    · rename_i b1 h1
      cases hc : beqB (renB ρ p.2) b1 with
      | false => rw [hc] at h; cases h
      | true =>
        rw [hc] at h
        rw [mkH_cons] at hb
        by_cases e : i = p.1
        · rw [if_pos e] at hb; cases hb
          rw [e, h1, beqB_eq hc]
        · rw [if_neg e] at hb
          exact heldL_ok h i b hb
    · cases h
noncomputable def embR (args0 : List Value) (l0 : Lit) (n0 : Nat) (v1 : Value) (ln : Lit) (n1 : Nat) : List Value → Heap → Nat → Option (Value × Heap × Nat) := fun args H nx =>
  match namesP (pairH H l0 (pairL args0 args)) n0 0 with
  | some l => cond ((l.all fun j => Nat.blt j nx) && (nodupR l && (Nat.beq l.length n0 && (veqs 65536 args (renL (rhoL l) args0) && heldL H (rhoL l) l0))))
      (some (ren (newρ (rhoL l) n0 nx) v1, addL H (shiftL (newρ (rhoL l) n0 nx) ln), nx + (n1 - n0))) none
  | none => none
theorem embR_ok {P : Program} {f : FuncId} {args0 : List Value} {l0 : Lit} {n0 : Nat} {v1 : Value} {ln : Lit} {n1 : Nat} (hcs : CS P f args0 (mkH l0) n0 v1 (mkH (ln ++ l0)) n1) (hfit : fitL args0 l0 n0 v1 ln n1 = true) {args : List Value} {H : Heap} {nx : Nat} {v : Value} {H' : Heap} {nx' : Nat}
    (h : embR args0 l0 n0 v1 ln n1 args H nx = some (v, H', nx')) : CS P f args H nx v H' nx' := by
  unfold embR at h
  split at h
  · rename_i l hl
    cases hc : ((l.all fun j => Nat.blt j nx) && (nodupR l && (Nat.beq l.length n0 && (veqs 65536 args (renL (rhoL l) args0) && heldL H (rhoL l) l0)))) with
    | false => rw [hc] at h; cases h
    | true =>
      rw [hc] at h
      cases h
      simp only [Bool.and_eq_true, List.all_eq_true, Nat.blt_eq] at hc
      obtain ⟨c1, c2, c3, c4, c5⟩ := hc
      have c3 := Nat.eq_of_beq_eq_true c3
      have c4 := (eqFn (a := undef) (b := undef) 65536).2 _ _ c4
      have hnd := nodupR_ok c2
      have hget : ∀ i, i < n0 → ∃ h : i < l.length, rhoL l i = l[i] := fun i hi => ⟨by omega, by simp [rhoL, List.getD, List.getElem?_eq_getElem (show i < l.length by omega)]⟩
      simp only [fitL, Bool.and_eq_true, List.all_eq_true, Nat.ble_eq, Nat.blt_eq] at hfit
      obtain ⟨hle, ha, hv, hl0, hln⟩ := hfit
      have k0 : ∀ i b, getH (mkH l0) i = some b → i < n0 ∧ lowB n0 b = true ∧ lowB n1 b = true := fun i b hb => hl0 _ (mkH_mem hb)
      have kn : ∀ i b, getH (mkH ln) i = some b → n0 ≤ i ∧ i < n1 ∧ lowB n1 b = true := fun i b hb => hln _ (mkH_mem hb)
      have he : Emb (rhoL l) (mkH l0) n0 H nx := ⟨fun i hi => by
          obtain ⟨h1, h2⟩ := hget i hi
          rw [h2]; exact c1 _ (List.getElem_mem h1), fun i j hi hj hij => by
          obtain ⟨h1, h2⟩ := hget i hi
          obtain ⟨h3, h4⟩ := hget j hj
          rw [h2, h4] at hij
          have hp := List.pairwise_iff_getElem.1 hnd
          rcases Nat.lt_trichotomy i j with g | g | g
          · exact absurd hij (hp i j h1 h3 g)
          · exact g
          · exact absurd hij.symm (hp j i h3 h1 g), fun i b hb => ⟨heldL_ok c5 i b hb, (k0 i b hb).2.1⟩, fun i hi => by
          cases hg : getH (mkH l0) i with
          | none => rfl
          | some b => have := (k0 i b hg).1; omega⟩
      obtain ⟨H', h1, h2, h3⟩ := emb_cs hcs he (by rw [List.all_eq_true]; exact ha) hle (fun i hi => by
          rw [mkH_app]
          cases hg : getH (mkH ln) i with
          | none => rfl
          | some b => have := (kn i b hg).1; omega) (fun i b hb => by
          rw [mkH_app] at hb
          cases hg : getH (mkH ln) i with
          | none => rw [hg] at hb; exact (k0 i b hb).2.2
          | some b' => rw [hg] at hb; cases hb; exact (kn i _ hg).2.2) (fun i hi => by
          rw [mkH_app]
          cases hg : getH (mkH ln) i with
          | some b => have := (kn i b hg).2.1; omega
          | none =>
            cases hg0 : getH (mkH l0) i with
            | none => rfl
            | some b => have := (k0 i b hg0).1; omega) hv
      rw [← c4] at h1
      refine ⟨h1.1, fun F args' w hr hvl => (h1.2 F args' w hr hvl).mono fun e w' ⟨v', F', he', hvr, hst⟩ => ⟨v', F', he', hvr, hst.wk fun i b hb => .inl ?_⟩⟩
      rw [addL_get] at hb
      cases hg : getH (mkH (shiftL (newρ (rhoL l) n0 nx) ln)) i with
      | some b' =>
        rw [hg] at hb; cases hb
        obtain ⟨j, b0, g1, g2, g3⟩ := shiftL_get hg
        have h4 : getH (mkH (ln ++ l0)) j = some b0 := by rw [mkH_app, g2]; rfl
        have := (h3.blk j b0 h4).1
        rw [g1, ← g3] at this
        exact this
      | none =>
        rw [hg] at hb
        have hb : getH H i = some b := hb
        have hi : i < nx := by
          rcases Nat.lt_or_ge i nx with g | g
          · exact g
          · rw [hr.top i g] at hb; cases hb
        rw [h2 i hi]; exact hb
  · cases h
end Go.Clo
