/-
  The closed executor: a run that is written down, beside other blocks.
  The closed executor: a run that is written down with names of its own (0, 1, 2, ..), beside any heap that holds the same blocks under other names.
  A run beside another heap, cut down to a few of its blocks under new names: chains of written-down runs.
  A run that makes an end of one block of its heap, beside another heap.
-/
import Derived.Test.YtbmiedinclieaaaGreatDoorU6
import Derived.Test.YtbmiedinclieaaaGreatDoorU3
set_option linter.all false
namespace Go.Clo
noncomputable def addL (H : Heap) (l : Lit) : Heap := @List.rec (Nat × Blk) (fun _ => Heap) H (fun p _ ih => hsK ih p.1 (some p.2) id) l
theorem addL_get (H : Heap) (i : Nat) : ∀ l : Lit, getH (addL H l) i = (getH (mkH l) i).or (getH H i)
  | [] => by rw [show mkH [] = Heap.leaf from rfl, getH_leaf]; rfl
  | p :: l => by
    rw [mkH_cons]
    show getH (hsK (addL H l) p.1 (some p.2) id) i = _
    rw [hsK_eq]
    simp only [id]
    rw [getH_hs]
    by_cases e : i = p.1
    · rw [if_pos e, if_pos e]; rfl
    · rw [if_neg e, if_neg e]; exact addL_get H i l
theorem mkH_app (l0 : Lit) (i : Nat) : ∀ l : Lit, getH (mkH (l ++ l0)) i = (getH (mkH l) i).or (getH (mkH l0) i)
  | [] => by rw [show mkH [] = Heap.leaf from rfl, getH_leaf]; rfl
  | p :: l => by
    rw [List.cons_append, mkH_cons, mkH_cons]
    by_cases e : i = p.1
    · rw [if_pos e, if_pos e]; rfl
    · rw [if_neg e, if_neg e]; exact mkH_app l0 i l
theorem mkH_mem {i : Nat} {b : Blk} : ∀ {l : Lit}, getH (mkH l) i = some b → (i, b) ∈ l
  | [], h => by rw [show mkH [] = Heap.leaf from rfl, getH_leaf] at h; cases h
  | p :: l, h => by
    rw [mkH_cons] at h
    by_cases e : i = p.1
    · rw [if_pos e] at h; cases h; rw [e]; exact List.mem_cons_self ..
    · rw [if_neg e] at h; exact List.mem_cons_of_mem _ (mkH_mem h)
/-- What is asked of such a run: names, all of them known. -/
def fitL (args : List Value) (l0 : Lit) (n0 : Nat) (v1 : Value) (ln : Lit) (n1 : Nat) : Bool :=
  Nat.ble n0 n1 && (args.all (lowV 16 n0) && (lowV 16 n1 v1 && ((l0.all fun p => Nat.blt p.1 n0 && (lowB n0 p.2 && lowB n1 p.2)) && ln.all fun p => Nat.ble n0 p.1 && (Nat.blt p.1 n1 && lowB n1 p.2))))
noncomputable def embO (args0 : List Value) (l0 : Lit) (n0 : Nat) (v1 : Value) (ln : Lit) (n1 : Nat) : List Value → Heap → Nat → Option (Value × Heap × Nat) := fun args H nx =>
  cond (Nat.beq nx n0 && (veqs 65536 args args0 && subLt H l0)) (some (v1, addL H ln, n1)) none
theorem embO_ok {P : Program} {f : FuncId} {args0 : List Value} {l0 : Lit} {n0 : Nat} {v1 : Value} {ln : Lit} {n1 : Nat} (hcs : CS P f args0 (mkH l0) n0 v1 (mkH (ln ++ l0)) n1) (hfit : fitL args0 l0 n0 v1 ln n1 = true) {args : List Value} {H : Heap} {nx : Nat} {v : Value} {H' : Heap} {nx' : Nat}
    (h : embO args0 l0 n0 v1 ln n1 args H nx = some (v, H', nx')) : CS P f args H nx v H' nx' := by
  unfold embO at h
  cases hc : (Nat.beq nx n0 && (veqs 65536 args args0 && subLt H l0)) with
  | false => rw [hc] at h; cases h
  | true =>
    rw [hc] at h
    cases h
    simp only [Bool.and_eq_true] at hc
    obtain ⟨e1, e2, hs⟩ := hc
    have := Nat.eq_of_beq_eq_true e1
    subst this
    have e2 := (eqFn (a := undef) (b := undef) 65536).2 _ _ e2
    subst e2
    simp only [fitL, Bool.and_eq_true, List.all_eq_true, Nat.ble_eq, Nat.blt_eq] at hfit
    obtain ⟨hle, ha, hv, hl0, hln⟩ := hfit
    have k0 : ∀ i b, getH (mkH l0) i = some b → i < nx ∧ lowB nx b = true ∧ lowB n1 b = true := fun i b hb => hl0 _ (mkH_mem hb)
    have kn : ∀ i b, getH (mkH ln) i = some b → nx ≤ i ∧ i < n1 ∧ lowB n1 b = true := fun i b hb => hln _ (mkH_mem hb)
    have he : Emb id (mkH l0) nx H nx := ⟨fun i hi => hi, fun i j _ _ h => h, fun i b hb => ⟨by rw [renB_id]; exact subLt_ok hs i b hb, (k0 i b hb).2.1⟩, fun i hi => by
      cases hg : getH (mkH l0) i with
      | none => rfl
      | some b => have := (k0 i b hg).1; omega⟩
    obtain ⟨H', h1, h2, h3⟩ := emb_cs hcs he (by rw [List.all_eq_true]; exact ha) hle (fun i hi => by
        rw [mkH_app]
        cases hg : getH (mkH ln) i with
        | none => rfl
        | some b => have := (kn i b hg).1; omega) (fun i b hb => by
        rw [mkH_app] at hb
        cases hg : getH (mkH ln) i with
        | none => rw [hg] at hb; exact (k0 i b hb).2.2
        | some b' => rw [hg] at hb; cases hb; exact (kn i _ hg).2.2) (fun i hi => by
        rw [mkH_app]
        cases hg : getH (mkH ln) i with
        | some b => have := (kn i b hg).2.1; omega
        | none =>
          cases hg0 : getH (mkH l0) i with
          | none => rfl
          | some b => have := (k0 i b hg0).1; omega) hv
    have hid : newρ id nx nx = id := by
      funext i
      unfold newρ
      by_cases e : i < nx
      · rw [if_pos e]
      · rw [if_neg e]; show nx + (i - nx) = i; omega
    rw [hid, ren_id, renL_id, show nx + (n1 - nx) = n1 by omega] at h1
    rw [hid, show nx + (n1 - nx) = n1 by omega] at h3
    refine ⟨h1.1, fun F args' w hr hvl => (h1.2 F args' w hr hvl).mono fun e w' ⟨v', F', he', hvr, hst⟩ => ⟨v', F', he', hvr, hst.wk fun i b hb => .inl ?_⟩⟩
    rw [addL_get] at hb
    cases hg : getH (mkH ln) i with
    | some b' =>
      rw [hg] at hb; cases hb
      have h4 : getH (mkH (ln ++ l0)) i = some b := by rw [mkH_app, hg]; rfl
      have := (h3.blk i b h4).1
      rw [renB_id] at this
      exact this
    | none =>
      rw [hg] at hb
      have hb : getH H i = some b := hb
      have hi : i < nx := by
        rcases Nat.lt_or_ge i nx with g | g
        · exact g
        · rw [hr.top i g] at hb; cases hb
      rw [h2 i hi]; exact hb
end Go.Clo

namespace Go.Clo
abbrev Prs := List (Nat × Nat)
/-- Which names stand for which: read off two values of one shape (what it says is checked afterwards). -/
def pairV : Nat → Value → Value → Prs
  | 0, _, _ => []
  | k + 1, v, u => match v, u with
    | .pointer (some a), .pointer (some b) => [(a.block, b.block)]
    | .slice (some a) _ _, .slice (some b) _ _ => [(a.block, b.block)]
    | .map (some r), .map (some s) => [(r, s)]
    | .iface _ v, .iface _ u => pairV k v u
    | .agg x, .agg y => (x.toList.zip y.toList).flatMap fun p => pairV k p.1 p.2
    | .tuple x, .tuple y => (x.toList.zip y.toList).flatMap fun p => pairV k p.1 p.2
    | _, _ => []
def pairL (x y : List Value) : Prs := (x.zip y).flatMap fun p => pairV 8 p.1 p.2
def pairB : Blk → Blk → Prs
  | .cells c _, .cells e _ => pairL c e
  | .map c _, .map e _ => (c.zip e).flatMap fun p => pairV 8 p.1.val p.2.val
  | _, _ => []
def lookP (i : Nat) : Prs → Option Nat
  | [] => none
  | p :: l => cond (Nat.beq p.1 i) (some p.2) (lookP i l)
noncomputable def pairH (H : Heap) : Lit → Prs → Prs
  | [], r => r
  | p :: l, r => match lookP p.1 r with
    | some j => (match getH H j with
      | some b => pairH H l (r ++ pairB p.2 b)
      | none => r)
    | none => r
def namesP (r : Prs) : Nat → Nat → Option (List Nat)
  | 0, _ => some []
  | k + 1, i => match lookP i r, namesP r k (i + 1) with
    | some j, some l => some (j :: l)
    | _, _ => none
def nodupR : List Nat → Bool
  | [] => true
  | x :: l => (l.all fun y => !(Nat.beq x y)) && nodupR l
theorem nodupR_ok : ∀ {l : List Nat}, nodupR l = true → l.Nodup
  | [], _ => List.nodup_nil
  | x :: l, h => by
    simp only [nodupR, Bool.and_eq_true, List.all_eq_true] at h
    refine List.nodup_cons.2 ⟨fun hx => ?_, nodupR_ok h.2⟩
    have := h.1 x hx
    simp at this
def rhoL (l : List Nat) : Nat → Nat := fun i => l.getD i 0
/-- The new blocks, under the names they get. -/
def shiftL (σ : Nat → Nat) (ln : Lit) : Lit := ln.map fun p => (σ p.1, renB σ p.2)
theorem shiftL_get {σ : Nat → Nat} {i : Nat} {b : Blk} : ∀ {ln : Lit}, getH (mkH (shiftL σ ln)) i = some b → ∃ j b0, σ j = i ∧ getH (mkH ln) j = some b0 ∧ b = renB σ b0
  | [], h => by rw [show mkH (shiftL σ []) = Heap.leaf from rfl, getH_leaf] at h; cases h
  | p :: ln, h => by
    rw [show shiftL σ (p :: ln) = (σ p.1, renB σ p.2) :: shiftL σ ln from rfl, mkH_cons] at h
    by_cases e : i = σ p.1
    · rw [if_pos e] at h
      cases h
      exact ⟨p.1, p.2, e.symm, by rw [mkH_cons, if_pos rfl], rfl⟩
    · rw [if_neg e] at h
      obtain ⟨j, b0, h1, h2, h3⟩ := shiftL_get h
      refine ⟨j, b0, h1, ?_, h3⟩
      rw [mkH_cons, if_neg (fun hj => e (by rw [← h1, hj]))]
      exact h2
noncomputable def heldL (H : Heap) (ρ : Nat → Nat) : Lit → Bool
  | [] => true
  | p :: l => match getH H (ρ p.1) with
    | some b => cond (beqB (renB ρ p.2) b) (heldL H ρ l) false
    | none => false
theorem heldL_ok {H : Heap} {ρ : Nat → Nat} : ∀ {l : Lit}, heldL H ρ l = true → ∀ i b, getH (mkH l) i = some b → getH H (ρ i) = some (renB ρ b)
  | [], _, i, b, h => by rw [show mkH [] = Heap.leaf from rfl, getH_leaf] at h; cases h
  | p :: l, h, i, b, hb => by
    rw [heldL] at h
    split at h
    · rename_i b1 h1
      cases hc : beqB (renB ρ p.2) b1 with
      | false => rw [hc] at h; cases h
      | true =>
        rw [hc] at h
        rw [mkH_cons] at hb
        by_cases e : i = p.1
        · rw [if_pos e] at hb; cases hb
          rw [e, h1, beqB_eq hc]
        · rw [if_neg e] at hb
          exact heldL_ok h i b hb
    · cases h
noncomputable def embR (args0 : List Value) (l0 : Lit) (n0 : Nat) (v1 : Value) (ln : Lit) (n1 : Nat) : List Value → Heap → Nat → Option (Value × Heap × Nat) := fun args H nx =>
  match namesP (pairH H l0 (pairL args0 args)) n0 0 with
  | some l => cond ((l.all fun j => Nat.blt j nx) && (nodupR l && (Nat.beq l.length n0 && (veqs 65536 args (renL (rhoL l) args0) && heldL H (rhoL l) l0))))
      (some (ren (newρ (rhoL l) n0 nx) v1, addL H (shiftL (newρ (rhoL l) n0 nx) ln), nx + (n1 - n0))) none
  | none => none
theorem embR_ok {P : Program} {f : FuncId} {args0 : List Value} {l0 : Lit} {n0 : Nat} {v1 : Value} {ln : Lit} {n1 : Nat} (hcs : CS P f args0 (mkH l0) n0 v1 (mkH (ln ++ l0)) n1) (hfit : fitL args0 l0 n0 v1 ln n1 = true) {args : List Value} {H : Heap} {nx : Nat} {v : Value} {H' : Heap} {nx' : Nat}
    (h : embR args0 l0 n0 v1 ln n1 args H nx = some (v, H', nx')) : CS P f args H nx v H' nx' := by
  unfold embR at h
  split at h
  · rename_i l hl
    cases hc : ((l.all fun j => Nat.blt j nx) && (nodupR l && (Nat.beq l.length n0 && (veqs 65536 args (renL (rhoL l) args0) && heldL H (rhoL l) l0)))) with
    | false => rw [hc] at h; cases h
    | true =>
      rw [hc] at h
      cases h
      simp only [Bool.and_eq_true, List.all_eq_true, Nat.blt_eq] at hc
      obtain ⟨c1, c2, c3, c4, c5⟩ := hc
      have c3 := Nat.eq_of_beq_eq_true c3
      have c4 := (eqFn (a := undef) (b := undef) 65536).2 _ _ c4
      have hnd := nodupR_ok c2
      have hget : ∀ i, i < n0 → ∃ h : i < l.length, rhoL l i = l[i] := fun i hi => ⟨by omega, by simp [rhoL, List.getD, List.getElem?_eq_getElem (show i < l.length by omega)]⟩
      simp only [fitL, Bool.and_eq_true, List.all_eq_true, Nat.ble_eq, Nat.blt_eq] at hfit
      obtain ⟨hle, ha, hv, hl0, hln⟩ := hfit
      have k0 : ∀ i b, getH (mkH l0) i = some b → i < n0 ∧ lowB n0 b = true ∧ lowB n1 b = true := fun i b hb => hl0 _ (mkH_mem hb)
      have kn : ∀ i b, getH (mkH ln) i = some b → n0 ≤ i ∧ i < n1 ∧ lowB n1 b = true := fun i b hb => hln _ (mkH_mem hb)
      have he : Emb (rhoL l) (mkH l0) n0 H nx := ⟨fun i hi => by
          obtain ⟨h1, h2⟩ := hget i hi
          rw [h2]; exact c1 _ (List.getElem_mem h1), fun i j hi hj hij => by
          obtain ⟨h1, h2⟩ := hget i hi
          obtain ⟨h3, h4⟩ := hget j hj
          rw [h2, h4] at hij
          have hp := List.pairwise_iff_getElem.1 hnd
          rcases Nat.lt_trichotomy i j with g | g | g
          · exact absurd hij (hp i j h1 h3 g)
          · exact g
          · exact absurd hij.symm (hp j i h3 h1 g), fun i b hb => ⟨heldL_ok c5 i b hb, (k0 i b hb).2.1⟩, fun i hi => by
          cases hg : getH (mkH l0) i with
          | none => rfl
          | some b => have := (k0 i b hg).1; omega⟩
      obtain ⟨H', h1, h2, h3⟩ := emb_cs hcs he (by rw [List.all_eq_true]; exact ha) hle (fun i hi => by
          rw [mkH_app]
          cases hg : getH (mkH ln) i with
          | none => rfl
          | some b => have := (kn i b hg).1; omega) (fun i b hb => by
          rw [mkH_app] at hb
          cases hg : getH (mkH ln) i with
          | none => rw [hg] at hb; exact (k0 i b hb).2.2
          | some b' => rw [hg] at hb; cases hb; exact (kn i _ hg).2.2) (fun i hi => by
          rw [mkH_app]
          cases hg : getH (mkH ln) i with
          | some b => have := (kn i b hg).2.1; omega
          | none =>
            cases hg0 : getH (mkH l0) i with
            | none => rfl
            | some b => have := (k0 i b hg0).1; omega) hv
      rw [← c4] at h1
      refine ⟨h1.1, fun F args' w hr hvl => (h1.2 F args' w hr hvl).mono fun e w' ⟨v', F', he', hvr, hst⟩ => ⟨v', F', he', hvr, hst.wk fun i b hb => .inl ?_⟩⟩
      rw [addL_get] at hb
      cases hg : getH (mkH (shiftL (newρ (rhoL l) n0 nx) ln)) i with
      | some b' =>
        rw [hg] at hb; cases hb
        obtain ⟨j, b0, g1, g2, g3⟩ := shiftL_get hg
        have h4 : getH (mkH (ln ++ l0)) j = some b0 := by rw [mkH_app, g2]; rfl
        have := (h3.blk j b0 h4).1
        rw [g1, ← g3] at this
        exact this
      | none =>
        rw [hg] at hb
        have hb : getH H i = some b := hb
        have hi : i < nx := by
          rcases Nat.lt_or_ge i nx with g | g
          · exact g
          · rw [hr.top i g] at hb; cases hb
        rw [h2 i hi]; exact hb
  · cases h
end Go.Clo

namespace Go.Clo
mutual
theorem ren_ren (ρ σ : Nat → Nat) : ∀ v : Value, ren ρ (ren σ v) = ren (fun i => ρ (σ i)) v
  | .bool b => by rw [ren, ren, ren]
  | .int k n => by rw [ren, ren, ren]
  | .float k n => by rw [ren, ren, ren]
  | .complex k a b => by rw [ren, ren, ren]
  | .string s => by rw [ren, ren, ren]
  | .pointer none => by rw [ren, ren]; rfl
  | .pointer (some ⟨b, o, none⟩) => by rw [ren, ren]; rfl
  | .pointer (some ⟨b, o, some s⟩) => by rw [ren, ren]; rfl
  | .slice none n c => by rw [ren, ren]; rfl
  | .slice (some ⟨b, o, none⟩) n c => by rw [ren, ren]; rfl
  | .slice (some ⟨b, o, some s⟩) n c => by rw [ren, ren]; rfl
  | .map none => by rw [ren, ren]; rfl
  | .map (some r) => by rw [ren, ren]; rfl
  | .chan c => by rw [ren, ren, ren]
  | .func fn x y => by rw [ren, ren, ren, renA_ren ρ σ x, renA_ren ρ σ y]
  | .nilFunc => by rw [ren, ren, ren]
  | .iface t v => by rw [ren, ren, ren, ren_ren ρ σ v]
  | .nilIface => by rw [ren, ren, ren]
  | .agg x => by rw [ren, ren, ren, renA_ren ρ σ x]
  | .tuple x => by rw [ren, ren, ren, renA_ren ρ σ x]
theorem renA_ren (ρ σ : Nat → Nat) : ∀ x : Array Value, renA ρ (renA σ x) = renA (fun i => ρ (σ i)) x
  | ⟨l⟩ => by rw [renA, renA, renA, renL_ren ρ σ l]
theorem renL_ren (ρ σ : Nat → Nat) : ∀ l : List Value, renL ρ (renL σ l) = renL (fun i => ρ (σ i)) l
  | [] => by rw [renL, renL, renL]
  | v :: l => by rw [renL, renL, renL, ren_ren ρ σ v, renL_ren ρ σ l]
end
theorem renB_ren (ρ σ : Nat → Nat) (b : Blk) : renB ρ (renB σ b) = renB (fun i => ρ (σ i)) b := by
  cases b with
  | cells c s => simp only [renB, renL_ren]
  | map es k =>
    simp only [renB, List.map_map]
    congr 1
    refine List.map_congr_left fun e he => ?_
    simp only [Function.comp, renE, ren_ren]
  | rom c => simp only [renB, renL_ren]
  | iter m s q => cases m <;> rfl
/-- The names that the written blocks l have in the heap H1, when the values xs of theirs are the values ys there. -/
noncomputable def namesAt (l : Lit) (n : Nat) (xs ys : List Value) (H1 : Heap) : Option (List Nat) := namesP (pairH H1 l (pairL xs ys)) n 0
/-- The values ys in the heap H1 are what is written: xs, and the blocks l behind them; none of the names lies from a to b. -/
noncomputable def cutOK (l : Lit) (n : Nat) (xs ys : List Value) (H1 : Heap) (n1 a b : Nat) : Bool :=
  match namesAt l n xs ys H1 with
  | some ns => (ns.all fun j => Nat.blt j n1 && (Nat.blt j a || Nat.ble b j)) && (nodupR ns && (Nat.beq ns.length n && (veqs 65536 ys (renL (rhoL ns) xs) && (heldL H1 (rhoL ns) l && (l.all fun p => Nat.blt p.1 n && lowB n p.2)))))
  | none => false
theorem cutOK_emb {l : Lit} {n : Nat} {xs ys : List Value} {H1 : Heap} {n1 a b : Nat} (h : cutOK l n xs ys H1 n1 a b = true) {ρ : Nat → Nat} {H : Heap} {nx : Nat} (he : Emb ρ H1 n1 H nx) :
    ∃ s : Nat → Nat, Emb (fun i => ρ (s i)) (mkH l) n H nx ∧ renL ρ ys = renL (fun i => ρ (s i)) xs ∧ ∀ i, i < n → s i < n1 ∧ (s i < a ∨ b ≤ s i) := by
  unfold cutOK at h
  split at h
  · rename_i ns hns
    simp only [Bool.and_eq_true, List.all_eq_true, Nat.blt_eq, Bool.or_eq_true, Nat.ble_eq] at h
    obtain ⟨c1, c2, c3, c4, c5, c6⟩ := h
    have c3 := Nat.eq_of_beq_eq_true c3
    have c4 := (eqFn (a := undef) (b := undef) 65536).2 _ _ c4
    have hnd := nodupR_ok c2
    have hget : ∀ i, i < n → ∃ h : i < ns.length, rhoL ns i = ns[i] := fun i hi => ⟨by omega, by simp [rhoL, List.getD, List.getElem?_eq_getElem (show i < ns.length by omega)]⟩
    have k0 : ∀ i b, getH (mkH l) i = some b → i < n ∧ lowB n b = true := fun i b hb => c6 _ (mkH_mem hb)
    have hlt : ∀ i, i < n → rhoL ns i < n1 ∧ (rhoL ns i < a ∨ b ≤ rhoL ns i) := fun i hi => by
      obtain ⟨h1, h2⟩ := hget i hi
      rw [h2]; exact c1 _ (List.getElem_mem h1)
    refine ⟨rhoL ns, ⟨fun i hi => he.lt _ (hlt i hi).1, fun i j hi hj hij => ?_, fun i b hb => ?_, fun i hi => ?_⟩, ?_, hlt⟩
    · have hij := he.inj _ _ (hlt i hi).1 (hlt j hj).1 hij
      obtain ⟨h1, h2⟩ := hget i hi
      obtain ⟨h3, h4⟩ := hget j hj
      rw [h2, h4] at hij
      have hp := List.pairwise_iff_getElem.1 hnd
      rcases Nat.lt_trichotomy i j with g | g | g
      · exact absurd hij (hp i j h1 h3 g)
      · exact g
      · exact absurd hij.symm (hp j i h3 h1 g)
    · have h1 := heldL_ok c5 i b hb
      exact ⟨by rw [(he.blk _ _ h1).1, renB_ren], (k0 i b hb).2⟩
    · cases hg : getH (mkH l) i with
      | none => rfl
      | some b => have := (k0 i b hg).1; omega
    · rw [c4, renL_ren]
  · cases h
/-- A written-down run only adds to the heap. -/
theorem lit_adds {args : List Value} {l0 : Lit} {n0 : Nat} {v1 : Value} {ln : Lit} {n1 : Nat} (hfit : fitL args l0 n0 v1 ln n1 = true) : Adds (mkH l0) n0 v1 (mkH (ln ++ l0)) n1 := by
  simp only [fitL, Bool.and_eq_true, List.all_eq_true, Nat.ble_eq, Nat.blt_eq] at hfit
  obtain ⟨hle, ha, hv, hl0, hln⟩ := hfit
  have k0 : ∀ i b, getH (mkH l0) i = some b → i < n0 ∧ lowB n0 b = true ∧ lowB n1 b = true := fun i b hb => hl0 _ (mkH_mem hb)
  have kn : ∀ i b, getH (mkH ln) i = some b → n0 ≤ i ∧ i < n1 ∧ lowB n1 b = true := fun i b hb => hln _ (mkH_mem hb)
  refine ⟨hle, fun i hi => ?_, fun i b hb => ?_, fun i hi => ?_, hv⟩
  · rw [mkH_app]
    cases hg : getH (mkH ln) i with
    | none => rfl
    | some b => have := (kn i b hg).1; omega
  · rw [mkH_app] at hb
    cases hg : getH (mkH ln) i with
    | none => rw [hg] at hb; exact (k0 i b hb).2.2
    | some b' => rw [hg] at hb; cases hb; exact (kn i _ hg).2.2
  · rw [mkH_app]
    cases hg : getH (mkH ln) i with
    | some b => have := (kn i b hg).2.1; omega
    | none =>
      cases hg0 : getH (mkH l0) i with
      | none => rfl
      | some b => have := (k0 i b hg0).1; omega
end Go.Clo

namespace Go.Clo
theorem emb_kill {P : Program} {f : FuncId} {args : List Value} {H0 : Heap} {n0 : Nat} {v : Value} {H1 : Heap} {n1 : Nat} {ρ : Nat → Nat} {H : Heap} {nx : Nat} (hcs : CS P f args H0 n0 v H1 n1) (he : Emb ρ H0 n0 H nx)
    (ha : args.all (lowV 16 n0) = true) (hle : n0 ≤ n1) {k0 : Nat} (hk0 : k0 < n0) (hkeep : ∀ i, i < n0 → getH H1 i = getH (hs H0 k0 none) i) (hl : ∀ i b, getH H1 i = some b → lowB n1 b = true) (htop : ∀ i, n1 ≤ i → getH H1 i = none) (hv : lowV 16 n1 v = true) :
    ∃ H', CS P f (renL ρ args) H nx (ren (newρ ρ n0 nx) v) H' (nx + (n1 - n0)) ∧ (∀ j, j < nx → getH H' j = getH (hs H (ρ k0) none) j) ∧ Emb (newρ ρ n0 nx) H1 n1 H' (nx + (n1 - n0)) := by
  obtain ⟨H', hH'⟩ := heap_new (hs H (ρ k0) none) (fun j => (getH H1 (n0 + (j - nx))).map (renB (newρ ρ n0 nx))) (n1 - n0) nx
  have hag : ∀ i, i < n0 → ρ i = newρ ρ n0 nx i := fun i hi => by simp [newρ, hi]
  have hnw : ∀ i, n0 ≤ i → newρ ρ n0 nx i = nx + (i - n0) := fun i hi => by simp [newρ]; omega
  have hkill : getH H1 k0 = none := by rw [hkeep k0 hk0, getH_same]
  have hkept : ∀ i, i < n0 → i ≠ k0 → getH H1 i = getH H0 i := fun i hi hn => by rw [hkeep i hi, getH_ne _ hn]
  have hold : ∀ j, j < nx → getH H' j = getH (hs H (ρ k0) none) j := fun j hj => by rw [hH', if_neg (by omega)]
  have hemb : Emb (newρ ρ n0 nx) H1 n1 H' (nx + (n1 - n0)) := by
    refine ⟨fun i hi => ?_, fun i k hi hk e => ?_, fun i b hb => ⟨?_, hl i b hb⟩, htop⟩
    · by_cases h : i < n0
      · rw [← hag i h]; have := he.lt i h; omega
      · rw [hnw i (by omega)]; omega
    · by_cases h : i < n0 <;> by_cases h' : k < n0
      · rw [← hag i h, ← hag k h'] at e; exact he.inj i k h h' e
      · rw [← hag i h, hnw k (by omega)] at e; have := he.lt i h; omega
      · rw [← hag k h', hnw i (by omega)] at e; have := he.lt k h'; omega
      · rw [hnw i (by omega), hnw k (by omega)] at e; omega
    · have hi : i < n1 := by
        rcases Nat.lt_or_ge i n1 with g | g
        · exact g
        · rw [htop i g] at hb; cases hb
      by_cases h : i < n0
      · have hik : i ≠ k0 := fun e => by rw [e, hkill] at hb; cases hb
        rw [← hag i h, hold _ (he.lt i h), getH_ne _ (fun e => hik (he.inj i k0 h hk0 e))]
        rw [hkept i h hik] at hb
        obtain ⟨g1, g2⟩ := he.blk i b hb
        rw [g1, renB_congr hag g2]
      · rw [hnw i (by omega), hH', if_pos (by omega)]
        have : n0 + (nx + (i - n0) - nx) = i := by omega
        rw [this, hb]; rfl
  refine ⟨H', ⟨hcs.1, fun F args' w hr hva => ?_⟩, hold, hemb⟩
  -- the heap as the run sees it
  have hr0 : HR (unF n0 ρ F) H0 n0 w := by
    refine ⟨fun i b hi hb => ?_, fun i j bi bj ti tj hi hj gi gj fi fj e => ?_, fun i hi => by simp [unF]; omega, he.top, ⟨hr.gl.1, fun x hx ⟨i, k, t, hi, hg, hrk, hF, e⟩ => ?_⟩⟩
    · obtain ⟨g1, g2⟩ := he.blk i b hb
      obtain ⟨t, hF, hbr⟩ := hr.blk (ρ i) _ (he.lt i hi) g1
      exact ⟨t, by simp [unF, hi, hF], hbr.un g2⟩
    · obtain ⟨g1, g2⟩ := he.blk i bi gi
      obtain ⟨g3, g4⟩ := he.blk j bj gj
      simp only [unF, hi, hj, if_true] at fi fj
      rcases hr.inj (ρ i) (ρ j) _ _ ti tj (he.lt i hi) (he.lt j hj) g1 g3 fi fj e with h | h
      · exact .inl (he.inj i j hi hj h)
      · rw [renB_rom, renB_rom] at h; exact .inr h
    · obtain ⟨g1, g2⟩ := he.blk i k hg
      simp only [unF, hi, if_true] at hF
      exact hr.gl.2 x hx ⟨ρ i, _, t, he.lt i hi, g1, by rw [renB_rom]; exact hrk, hF, e⟩
  refine (hcs.2 _ args' w hr0 (VL.un ha hva)).mono fun e w' ⟨v', F1, h1, hvr, hst⟩ => ?_
  -- the addresses behind
  let F' : FM := fun j => if j < nx then F j else if j < nx + (n1 - n0) then F1 (n0 + (j - nx)) else none
  have hF1 : ∀ i t, F1 i = some t → F' (newρ ρ n0 nx i) = some t := by
    intro i t hi
    have hin : i < n1 := by
      rcases Nat.lt_or_ge i n1 with g | g
      · exact g
      · rw [hst.hr.fresh i g] at hi; cases hi
    by_cases h : i < n0
    · have := hst.ext i h
      rw [hi] at this
      simp only [unF, h, if_true] at this
      rw [← hag i h]
      show (if ρ i < nx then F (ρ i) else _) = some t
      rw [if_pos (he.lt i h), ← this]
    · rw [hnw i (by omega)]
      show (if nx + (i - n0) < nx then _ else if nx + (i - n0) < nx + (n1 - n0) then F1 (n0 + (nx + (i - n0) - nx)) else none) = some t
      rw [if_neg (by omega), if_pos (by omega)]
      have : n0 + (nx + (i - n0) - nx) = i := by omega
      rw [this, hi]
  have hFo : ∀ j, j < nx → F' j = F j := fun j hj => by show (if j < nx then F j else _) = _; rw [if_pos hj]
  have hFle : F.le F' := fun j t hj => by
    have : j < nx := hr.hb.lt hj
    rw [hFo j this]; exact hj
  have hFn : ∀ j, nx ≤ j → j < nx + (n1 - n0) → F' j = F1 (n0 + (j - nx)) := fun j h h' => by
    show (if j < nx then _ else if j < nx + (n1 - n0) then F1 (n0 + (j - nx)) else none) = _
    rw [if_neg (by omega), if_pos h']
  have own0 : ∀ b, Own (unF n0 ρ F) H0 n0 b → Own F H nx b := by
    rintro b ⟨i, k, t, hi, hg, hrk, hF, e⟩
    simp only [unF, hi, if_true] at hF
    exact ⟨ρ i, _, t, he.lt i hi, (he.blk i k hg).1, by rw [renB_rom]; exact hrk, hF, e⟩
  -- each name of the heap behind: an old one, or one of the run's
  have look : ∀ j b, getH H' j = some b → (j < nx ∧ getH H j = some b ∧ j ≠ ρ k0) ∨ ∃ i b0, n0 ≤ i ∧ i < n1 ∧ j = nx + (i - n0) ∧ getH H1 i = some b0 ∧ b = renB (newρ ρ n0 nx) b0 := by
    intro j b hb
    rw [hH'] at hb
    by_cases h : nx ≤ j ∧ j < nx + (n1 - n0)
    · rw [if_pos h] at hb
      cases hq : getH H1 (n0 + (j - nx)) with
      | none => rw [hq] at hb; cases hb
      | some b0 => rw [hq] at hb; cases hb; exact .inr ⟨n0 + (j - nx), b0, by omega, by omega, by omega, hq, rfl⟩
    · rw [if_neg h] at hb
      have hjn : j ≠ ρ k0 := fun e => by rw [e, getH_same] at hb; cases hb
      rw [getH_ne _ hjn] at hb
      exact .inl ⟨hr.low hb, hb, hjn⟩
  have old : ∀ j b t, j < nx → j ≠ ρ k0 → getH H j = some b → F j = some t → BR F t b w → BR F' t b w' := by
    intro j b t hj hjn hb hF hbr
    by_cases hown : Own (unF n0 ρ F) H0 n0 t.blk
    · obtain ⟨i, k, u, hi, hg, hrk, hFu, e⟩ := hown
      simp only [unF, hi, if_true] at hFu
      obtain ⟨g1, g2⟩ := he.blk i k hg
      rcases hr.inj (ρ i) j _ _ u t (he.lt i hi) hj g1 hb hFu hF e with h | h
      · subst h
        rw [g1] at hb; cases hb
        obtain ⟨t1, ht1, hb1⟩ := hst.hr.blk i k (by omega) (by rw [hkept i hi (fun e => hjn (by rw [e]))]; exact hg)
        have hF1i := hF1 i t1 ht1
        rw [← hag i hi, hFo _ hj, hF] at hF1i
        cases hF1i
        have := hb1.re hF1
        rw [← renB_congr hag g2] at this
        exact this
      · rw [renB_rom, hrk] at h; cases h.1
    · exact hbr.mono hFle (hst.frame _ hbr.lt hown)
  have newB : ∀ i b0, n0 ≤ i → i < n1 → getH H1 i = some b0 → ∃ t, F1 i = some t ∧ F' (nx + (i - n0)) = some t ∧ BR F' t (renB (newρ ρ n0 nx) b0) w' ∧ b0.isRom = false := by
    intro i b0 h0 hi hb
    obtain ⟨t, ht, hbr⟩ := hst.hr.blk i b0 hi hb
    refine ⟨t, ht, ?_, hbr.re hF1, lowB_rom (hl i b0 hb)⟩
    have := hF1 i t ht
    rwa [hnw i h0] at this
  have fresh1 : ∀ i t, n0 ≤ i → i < n1 → F1 i = some t → (∃ b0, getH H1 i = some b0) → w.heap.size ≤ t.blk ∨ Own F H nx t.blk := by
    rintro i t h0 hi hF ⟨b0, hb⟩
    rcases hst.own t.blk ⟨i, b0, t, hi, hb, lowB_rom (hl i b0 hb), hF, rfl⟩ with h | h
    · exact .inr (own0 _ h)
    · exact .inl h
  refine ⟨v', F', h1, hvr.re hF1, ⟨by omega, hFo, hst.os, hst.tape, hst.output, hst.size, fun b hb hno => hst.frame b hb fun h => hno (own0 b h), ?_, fun j hj hn => by
    rw [hold j hj]
    by_cases e : j = ρ k0
    · rw [e, getH_same]
    · rw [getH_ne _ e]; exact hn, ?_, ?_⟩⟩
  · rintro b ⟨j, k, t, hj, hg, hrk, hF, rfl⟩
    rcases look j k hg with ⟨hjx, hgj, hjn⟩ | ⟨i, b0, hi0, hi1, rfl, hb0, rfl⟩
    · rw [hFo j hjx] at hF; exact .inl ⟨j, k, t, hjx, hgj, hrk, hF, rfl⟩
    · obtain ⟨t1, ht1, hF', _, _⟩ := newB i b0 hi0 hi1 hb0
      rw [hF'] at hF; cases hF
      exact (fresh1 i t hi0 hi1 ht1 ⟨b0, hb0⟩).symm
  · intro j b hg hrb
    rcases look j b hg with ⟨hjx, hgj, hjn⟩ | ⟨i, b0, hi0, hi1, rfl, hb0, rfl⟩
    · exact ⟨hjx, hgj⟩
    · rw [renB_rom, lowB_rom (hl i b0 hb0)] at hrb; cases hrb
  · refine ⟨fun j b hj hg => ?_, fun j k bj bk tj tk hj hk gj gk fj fk e => ?_, fun j hj => ?_, fun j hj => ?_, ?_⟩
    · rcases look j b hg with ⟨hjx, hgj, hjn⟩ | ⟨i, b0, hi0, hi1, rfl, hb0, rfl⟩
      · obtain ⟨t, hF, hbr⟩ := hr.blk j b hjx hgj
        exact ⟨t, by rw [hFo j hjx]; exact hF, old j b t hjx hjn hgj hF hbr⟩
      · obtain ⟨t, _, hF', hbr, _⟩ := newB i b0 hi0 hi1 hb0
        exact ⟨t, hF', hbr⟩
    · -- two names for one block
      have mix : ∀ i b0 q bq tq, n0 ≤ i → i < n1 → getH H1 i = some b0 → F' (nx + (i - n0)) = some tj → q < nx → q ≠ ρ k0 → getH H q = some bq → F q = some tq → tj.blk = tq.blk → False := by
        intro i b0 q bq tq hi0 hi1 hb0 hF' hq hqn hgq hFq e
        obtain ⟨t1, ht1, hF2, _, hr0'⟩ := newB i b0 hi0 hi1 hb0
        rw [hF2] at hF'; cases hF'
        obtain ⟨tq', hq', hbq⟩ := hr.blk q bq hq hgq
        rw [hFq] at hq'; cases hq'
        have hlt := hbq.lt
        rcases hst.own tj.blk ⟨i, b0, tj, hi1, hb0, hr0', ht1, rfl⟩ with h | h
        · obtain ⟨i', k', u, hi', hg', hrk', hFu, eu⟩ := h
          simp only [unF, hi', if_true] at hFu
          obtain ⟨g1, g2⟩ := he.blk i' k' hg'
          rcases hr.inj (ρ i') q _ _ u tq (he.lt i' hi') hq g1 hgq hFu hFq (by omega) with h | h
          · -- then the run has two names for it
            have hk1 : getH H1 i' = some k' := by rw [hkept i' hi' (fun e => hqn (by rw [← h, e]))]; exact hg'
            obtain ⟨u1, hu1, _⟩ := hst.hr.blk i' k' (by omega) hk1
            have hue := hst.ext i' hi'
            simp only [unF, hi', if_true] at hue
            rw [hue, hFu] at hu1; cases hu1
            rcases hst.hr.inj i i' b0 k' tj u hi1 (by omega) hb0 hk1 ht1 (by rw [hue, hFu]) eu.symm with h | h
            · omega
            · rw [hr0'] at h; cases h.1
          · rw [renB_rom, hrk'] at h; cases h.1
        · omega
      rcases look j bj gj with ⟨hjx, hgj, hjn⟩ | ⟨i, b0, hi0, hi1, rfl, hb0, rfl⟩ <;> rcases look k bk gk with ⟨hkx, hgk, hkn⟩ | ⟨i', b0', hi0', hi1', rfl, hb0', rfl⟩
      · rw [hFo j hjx] at fj; rw [hFo k hkx] at fk
        exact hr.inj j k bj bk tj tk hjx hkx hgj hgk fj fk e
      · exfalso
        rw [hFo j hjx] at fj
        have mix' : ∀ i b0 q bq tq, n0 ≤ i → i < n1 → getH H1 i = some b0 → F' (nx + (i - n0)) = some tk → q < nx → q ≠ ρ k0 → getH H q = some bq → F q = some tq → tk.blk = tq.blk → False := by
          intro i b0 q bq tq hi0 hi1 hb0 hF' hq hqn hgq hFq e
          obtain ⟨t1, ht1, hF2, _, hr0'⟩ := newB i b0 hi0 hi1 hb0
          rw [hF2] at hF'; cases hF'
          obtain ⟨tq', hq', hbq⟩ := hr.blk q bq hq hgq
          rw [hFq] at hq'; cases hq'
          have hlt := hbq.lt
          rcases hst.own tk.blk ⟨i, b0, tk, hi1, hb0, hr0', ht1, rfl⟩ with h | h
          · obtain ⟨i', k', u, hi', hg', hrk', hFu, eu⟩ := h
            simp only [unF, hi', if_true] at hFu
            obtain ⟨g1, g2⟩ := he.blk i' k' hg'
            rcases hr.inj (ρ i') q _ _ u tq (he.lt i' hi') hq g1 hgq hFu hFq (by omega) with h | h
            · have hk1 : getH H1 i' = some k' := by rw [hkept i' hi' (fun e => hqn (by rw [← h, e]))]; exact hg'
              obtain ⟨u1, hu1, _⟩ := hst.hr.blk i' k' (by omega) hk1
              have hue := hst.ext i' hi'
              simp only [unF, hi', if_true] at hue
              rw [hue, hFu] at hu1; cases hu1
              rcases hst.hr.inj i i' b0 k' tk u hi1 (by omega) hb0 hk1 ht1 (by rw [hue, hFu]) eu.symm with h | h
              · omega
              · rw [hr0'] at h; cases h.1
            · rw [renB_rom, hrk'] at h; cases h.1
          · omega
        exact mix' i' b0' j bj tj hi0' hi1' hb0' fk hjx hjn hgj fj e.symm
      · exfalso
        rw [hFo k hkx] at fk
        exact mix i b0 k bk tk hi0 hi1 hb0 fj hkx hkn hgk fk e
      · obtain ⟨t1, ht1, hF2, _, hra⟩ := newB i b0 hi0 hi1 hb0
        rw [hF2] at fj; cases fj
        obtain ⟨t2, ht2, hF3, _, hrb⟩ := newB i' b0' hi0' hi1' hb0'
        rw [hF3] at fk; cases fk
        rcases hst.hr.inj i i' b0 b0' tj tk hi1 hi1' hb0 hb0' ht1 ht2 e with h | h
        · exact .inl (by rw [h])
        · rw [hra] at h; cases h.1
    · show (if j < nx then _ else if j < nx + (n1 - n0) then _ else none) = none
      rw [if_neg (by omega), if_neg (by omega)]
    · rw [hH', if_neg (by omega), getH_ne _ (by have := he.lt k0 hk0; omega)]; exact hr.top j (by omega)
    · refine hr.gl.step (fun b hb hno => hst.frame b hb fun h => hno (own0 b h)) ?_
      rintro b ⟨j, k, t, hj, hg, hrk, hF, rfl⟩
      rcases look j k hg with ⟨hjx, hgj, hjn⟩ | ⟨i, b0, hi0, hi1, rfl, hb0, rfl⟩
      · rw [hFo j hjx] at hF; exact .inl ⟨j, k, t, hjx, hgj, hrk, hF, rfl⟩
      · obtain ⟨t1, ht1, hF', _, _⟩ := newB i b0 hi0 hi1 hb0
        rw [hF'] at hF; cases hF
        exact (fresh1 i t hi0 hi1 ht1 ⟨b0, hb0⟩).symm

/-- A run that makes an end of block q0 and adds to the heap. -/
noncomputable def stepK (P : Program) (orc : Orc) (dok : FuncId → Nat → Bool) (f : FuncId) (args : List Value) (H : Heap) (n q0 : Nat) (k : Value → Heap → Nat → Bool) : Bool :=
  callD P orc dok 200 f args H n false fun v H1 n1 => rebF H1 (fun H1 => cond (Nat.ble n n1 && lowV 16 n1 v && lowH H1 n1 n1 0 && sameH (hs H q0 none) H1 n 0) (k v H1 n1) false) n1 0 .leaf
theorem stepK_inv {P : Program} (hm : P.follows .mixedOrders = true) (hNG : NamesOK P) {orc : Orc} (ho : OrcOK P orc) {dok : FuncId → Nat → Bool} (hdok : DfrOK P dok) {f : FuncId} {args : List Value} {H : Heap} {n q0 : Nat} {k : Value → Heap → Nat → Bool}
    (h : stepK P orc dok f args H n q0 k = true) : ∃ v H1 n1, CS P f args H n v H1 n1 ∧ Adds (hs H q0 none) n v H1 n1 ∧ k v H1 n1 = true := by
  unfold stepK at h
  rcases callD_sound (β := Bool) hm hNG ho hdok 200 f args H n false (fun v H1 n1 => rebF H1 (fun H1 => cond (Nat.ble n n1 && lowV 16 n1 v && lowH H1 n1 n1 0 && sameH (hs H q0 none) H1 n 0) (k v H1 n1) false) n1 0 .leaf) with e | ⟨v, H1, n1, e, hcs⟩
  · rw [e] at h; cases h
  · rw [e] at h
    obtain ⟨A, hA1, hA2⟩ := rebF_eq (β := Bool) H1 n1 0 .leaf (fun j _ => getH_leaf j)
    rw [hA1] at h
    cases hc : (Nat.ble n n1 && lowV 16 n1 v && lowH A n1 n1 0 && sameH (hs H q0 none) A n 0) with
    | false => rw [hc] at h; cases h
    | true =>
      rw [hc] at h
      simp only [Bool.and_eq_true] at hc
      obtain ⟨⟨⟨c1, c2⟩, c3⟩, c4⟩ := hc
      have hle := Nat.le_of_ble_eq_true c1
      have hlow : ∀ i, n1 ≤ i → getH A i = none := fun i hi => by rw [hA2, if_neg (by omega)]; exact getH_leaf i
      have hget : ∀ i, i < n1 → getH A i = getH H1 i := fun i hi => by rw [hA2, if_pos (by omega)]
      refine ⟨v, A, n1, hcs.low hget hlow, ⟨hle, fun i hi => sameH_ok c4 i (by omega) (by omega), fun i b hb => ?_, hlow, c2⟩, h⟩
      have hi : i < n1 := by
        rcases Nat.lt_or_ge i n1 with g | g
        · exact g
        · rw [hlow i g] at hb; cases hb
      exact lowH_ok c3 i b (by omega) (by omega) hb
theorem Adds.kill {P : Program} {f : FuncId} {args : List Value} {H0 : Heap} {n0 q0 : Nat} {v : Value} {H1 : Heap} {n1 : Nat} {ρ : Nat → Nat} {H : Heap} {nx : Nat} (hq : q0 < n0) (hcs : CS P f args H0 n0 v H1 n1) (ha : Adds (hs H0 q0 none) n0 v H1 n1) (he : Emb ρ H0 n0 H nx)
    (hl : args.all (lowV 16 n0) = true) : ∃ H' nx', CS P f (renL ρ args) H nx (ren (newρ ρ n0 nx) v) H' nx' ∧ nx ≤ nx' ∧ (∀ j, j < nx → getH H' j = getH (hs H (ρ q0) none) j) ∧ Emb (newρ ρ n0 nx) H1 n1 H' nx' := by
  obtain ⟨H', h1, h2, h3⟩ := emb_kill hcs he hl ha.le hq ha.keep ha.low ha.top ha.val
  exact ⟨H', _, h1, by omega, h2, h3⟩
end Go.Clo
