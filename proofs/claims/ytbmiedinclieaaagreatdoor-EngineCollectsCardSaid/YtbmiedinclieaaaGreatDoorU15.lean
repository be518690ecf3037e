/-
  A run that is written down, beside any heap that holds its blocks: the names are kept in a trie (for runs with many blocks).
-/
import Derived.Test.YtbmiedinclieaaaGreatDoorU12
set_option linter.all false
namespace Go.Clo
noncomputable def putN {β : Type} : Prs → Heap → (Heap → β) → β
  | [], M, k => k M
  | p :: l, M, k => hsK M p.1 (some (.iter (some p.2) 0 none)) fun M => putN l M k
theorem putN_eq {β : Type} : ∀ (l : Prs) (M : Heap) , ∃ M', ∀ k : Heap → β, putN l M k = k M'
  | [], M => ⟨M, fun k => rfl⟩
  | p :: l, M => by
    obtain ⟨M', h⟩ := putN_eq (β := β) l (hs M p.1 (some (.iter (some p.2) 0 none)))
    exact ⟨M', fun k => by rw [putN, hsK_eq]; exact h k⟩
def nameB : Blk → Option Nat
  | .iter m _ _ => m
  | _ => none
noncomputable def rhoT (M : Heap) (i : Nat) : Nat := match getH M i with
  | some b => (nameB b).getD 0
  | none => 0
noncomputable def pairT {β : Type} (H : Heap) (z : β) : Lit → Heap → (Heap → β) → β
  | [], M, k => k M
  | p :: l, M, k => match getH H (rhoT M p.1) with
    | some b => putN (pairB p.2 b) M fun M => pairT H z l M k
    | none => z
theorem pairT_eq {β : Type} (H : Heap) : ∀ (l : Lit) (M : Heap) (z : β) (k : Heap → β), pairT H z l M k = z ∨ ∃ M', pairT H z l M k = k M'
  | [], M, z, k => .inr ⟨M, rfl⟩
  | p :: l, M, z, k => by
    rw [pairT]
    split
    · rename_i b hb
      obtain ⟨M', h⟩ := putN_eq (β := β) (pairB p.2 b) M
      rw [h]
      exact pairT_eq H l M' z k
    · exact .inl rfl
noncomputable def invN {β : Type} (M : Heap) : List Nat → Heap → (Heap → β) → β
  | [], V, k => k V
  | i :: l, V, k => forceN (rhoT M i) fun j => hsK V j (some (.iter (some i) 0 none)) fun V => invN M l V k
theorem invN_eq {β : Type} (M : Heap) : ∀ (l : List Nat) (V : Heap), ∃ V', ∀ k : Heap → β, invN M l V k = k V'
  | [], V => ⟨V, fun k => rfl⟩
  | i :: l, V => by
    obtain ⟨V', h⟩ := invN_eq (β := β) M l (hs V (rhoT M i) (some (.iter (some i) 0 none)))
    exact ⟨V', fun k => by rw [invN, forceN_eq, hsK_eq]; exact h k⟩
noncomputable def embT (args0 : List Value) (l0 : Lit) (n0 : Nat) (v1 : Value) (ln : Lit) (n1 : Nat) : List Value → Heap → Nat → Option (Value × Heap × Nat) := fun args H nx =>
  putN (pairL args0 args) .leaf fun M => pairT H none l0 M fun M => invN M (List.range n0) .leaf fun V =>
    cond ((List.range n0).all (fun i => forceN (rhoT M i) fun j => Nat.blt j nx && Nat.beq (rhoT V j) i) && (veqs 65536 args (renL (rhoT M) args0) && heldL H (rhoT M) l0))
      (some (ren (newρ (rhoT M) n0 nx) v1, addL H (shiftL (newρ (rhoT M) n0 nx) ln), nx + (n1 - n0))) none
theorem embT_ok {P : Program} {f : FuncId} {args0 : List Value} {l0 : Lit} {n0 : Nat} {v1 : Value} {ln : Lit} {n1 : Nat} (hcs : CS P f args0 (mkH l0) n0 v1 (mkH (ln ++ l0)) n1) (hfit : fitL args0 l0 n0 v1 ln n1 = true) {args : List Value} {H : Heap} {nx : Nat} {v : Value} {H' : Heap} {nx' : Nat}
    (h : embT args0 l0 n0 v1 ln n1 args H nx = some (v, H', nx')) : CS P f args H nx v H' nx' := by
  unfold embT at h
  obtain ⟨M0, e0⟩ := putN_eq (β := Option (Value × Heap × Nat)) (pairL args0 args) .leaf
  rw [e0] at h
  rcases pairT_eq H l0 M0 none (fun M => invN M (List.range n0) .leaf fun V =>
    cond ((List.range n0).all (fun i => forceN (rhoT M i) fun j => Nat.blt j nx && Nat.beq (rhoT V j) i) && (veqs 65536 args (renL (rhoT M) args0) && heldL H (rhoT M) l0))
      (some (ren (newρ (rhoT M) n0 nx) v1, addL H (shiftL (newρ (rhoT M) n0 nx) ln), nx + (n1 - n0))) none) with e | ⟨M, e⟩
  · rw [e] at h; cases h
  · rw [e] at h
    obtain ⟨V, e1⟩ := invN_eq (β := Option (Value × Heap × Nat)) M (List.range n0) .leaf
    rw [e1] at h
    cases hc : ((List.range n0).all (fun i => forceN (rhoT M i) fun j => Nat.blt j nx && Nat.beq (rhoT V j) i) && (veqs 65536 args (renL (rhoT M) args0) && heldL H (rhoT M) l0)) with
    | false => rw [hc] at h; cases h
    | true =>
      rw [hc] at h
      cases h
      simp only [Bool.and_eq_true, List.all_eq_true, forceN_eq, Nat.blt_eq] at hc
      obtain ⟨c1, c4, c5⟩ := hc
      have cI : ∀ i, i < n0 → rhoT M i < nx ∧ rhoT V (rhoT M i) = i := fun i hi => ⟨(c1 i (List.mem_range.2 hi)).1, Nat.eq_of_beq_eq_true (c1 i (List.mem_range.2 hi)).2⟩
      have c4 := (eqFn (a := undef) (b := undef) 65536).2 _ _ c4
      simp only [fitL, Bool.and_eq_true, List.all_eq_true, Nat.ble_eq, Nat.blt_eq] at hfit
      obtain ⟨hle, ha, hv, hl0, hln⟩ := hfit
      have k0 : ∀ i b, getH (mkH l0) i = some b → i < n0 ∧ lowB n0 b = true ∧ lowB n1 b = true := fun i b hb => hl0 _ (mkH_mem hb)
      have kn : ∀ i b, getH (mkH ln) i = some b → n0 ≤ i ∧ i < n1 ∧ lowB n1 b = true := fun i b hb => hln _ (mkH_mem hb)
      have he : Emb (rhoT M) (mkH l0) n0 H nx := ⟨fun i hi => (cI i hi).1, fun i j hi hj hij => by
          rw [← (cI i hi).2, ← (cI j hj).2, hij], fun i b hb => ⟨heldL_ok c5 i b hb, (k0 i b hb).2.1⟩, fun i hi => by
          cases hg : getH (mkH l0) i with
          | none => rfl
          | some b => have := (k0 i b hg).1; omega⟩
      obtain ⟨H', h1, h2, h3⟩ := emb_cs hcs he (by rw [List.all_eq_true]; exact ha) hle (fun i hi => by
          rw [mkH_app]
          cases hg : getH (mkH ln) i with
          | none => rfl
          | some b => have := (kn i b hg).1; omega) (fun i b hb => by
          rw [mkH_app] at hb
          cases hg : getH (mkH ln) i with
          | none => rw [hg] at hb; exact (k0 i b hb).2.2
          | some b' => rw [hg] at hb; cases hb; exact (kn i _ hg).2.2) (fun i hi => by
          rw [mkH_app]
          cases hg : getH (mkH ln) i with
          | some b => have := (kn i b hg).2.1; omega
          | none =>
            cases hg0 : getH (mkH l0) i with
            | none => rfl
            | some b => have := (k0 i b hg0).1; omega) hv
      rw [← c4] at h1
      refine ⟨h1.1, fun F args' w hr hvl => (h1.2 F args' w hr hvl).mono fun e w' ⟨v', F', he', hvr, hst⟩ => ⟨v', F', he', hvr, hst.wk fun i b hb => .inl ?_⟩⟩
      rw [addL_get] at hb
      cases hg : getH (mkH (shiftL (newρ (rhoT M) n0 nx) ln)) i with
      | some b' =>
        rw [hg] at hb; cases hb
        obtain ⟨j, b0, g1, g2, g3⟩ := shiftL_get hg
        have h4 : getH (mkH (ln ++ l0)) j = some b0 := by rw [mkH_app, g2]; rfl
        have := (h3.blk j b0 h4).1
        rw [g1, ← g3] at this
        exact this
      | none =>
        rw [hg] at hb
        have hb : getH H i = some b := hb
        have hi : i < nx := by
          rcases Nat.lt_or_ge i nx with g | g
          · exact g
          · rw [hr.top i g] at hb; cases hb
        rw [h2 i hi]; exact hb
end Go.Clo
