/-
  The closed executor: a run that is written down, beside other blocks.
-/
import Derived.Test.YtaiefmkapnekiaaGreatDoorH8
set_option linter.all false
namespace Go.Clo
noncomputable def addL (H : Heap) (l : Lit) : Heap := @List.rec (Nat × Blk) (fun _ => Heap) H (fun p _ ih => hsK ih p.1 (some p.2) id) l
theorem addL_get (H : Heap) (i : Nat) : ∀ l : Lit, getH (addL H l) i = (getH (mkH l) i).or (getH H i)
  | [] => by rw [show mkH [] = Heap.leaf from rfl, getH_leaf]; rfl
  | p :: l => by
    rw [mkH_cons]
    show getH (hsK (addL H l) p.1 (some p.2) id) i = _
    rw [hsK_eq]
    simp only [id]
    rw [getH_hs]
    by_cases e : i = p.1
    · rw [if_pos e, if_pos e]; rfl
    · rw [if_neg e, if_neg e]; exact addL_get H i l
theorem mkH_app (l0 : Lit) (i : Nat) : ∀ l : Lit, getH (mkH (l ++ l0)) i = (getH (mkH l) i).or (getH (mkH l0) i)
  | [] => by rw [show mkH [] = Heap.leaf from rfl, getH_leaf]; rfl
  | p :: l => by
    rw [List.cons_append, mkH_cons, mkH_cons]
    by_cases e : i = p.1
    · rw [if_pos e, if_pos e]; rfl
    · rw [if_neg e, if_neg e]; exact mkH_app l0 i l
theorem mkH_mem {i : Nat} {b : Blk} : ∀ {l : Lit}, getH (mkH l) i = some b → (i, b) ∈ l
  | [], h => by rw [show mkH [] = Heap.leaf from rfl, getH_leaf] at h; cases h
  | p :: l, h => by
    rw [mkH_cons] at h
    by_cases e : i = p.1
    · rw [if_pos e] at h; cases h; rw [e]; exact List.mem_cons_self ..
    · rw [if_neg e] at h; exact List.mem_cons_of_mem _ (mkH_mem h)
/-- What is asked of such a run: names, all of them known. -/
def fitL (args : List Value) (l0 : Lit) (n0 : Nat) (v1 : Value) (ln : Lit) (n1 : Nat) : Bool :=
  Nat.ble n0 n1 && (args.all (lowV 16 n0) && (lowV 16 n1 v1 && ((l0.all fun p => Nat.blt p.1 n0 && (lowB n0 p.2 && lowB n1 p.2)) && ln.all fun p => Nat.ble n0 p.1 && (Nat.blt p.1 n1 && lowB n1 p.2))))
noncomputable def embO (args0 : List Value) (l0 : Lit) (n0 : Nat) (v1 : Value) (ln : Lit) (n1 : Nat) : List Value → Heap → Nat → Option (Value × Heap × Nat) := fun args H nx =>
  cond (Nat.beq nx n0 && (veqs 65536 args args0 && subLt H l0)) (some (v1, addL H ln, n1)) none
theorem embO_ok {P : Program} {f : FuncId} {args0 : List Value} {l0 : Lit} {n0 : Nat} {v1 : Value} {ln : Lit} {n1 : Nat} (hcs : CS P f args0 (mkH l0) n0 v1 (mkH (ln ++ l0)) n1) (hfit : fitL args0 l0 n0 v1 ln n1 = true) {args : List Value} {H : Heap} {nx : Nat} {v : Value} {H' : Heap} {nx' : Nat}
    (h : embO args0 l0 n0 v1 ln n1 args H nx = some (v, H', nx')) : CS P f args H nx v H' nx' := by
  unfold embO at h
  cases hc : (Nat.beq nx n0 && (veqs 65536 args args0 && subLt H l0)) with
  | false => rw [hc] at h; cases h
  | true =>
    rw [hc] at h
    cases h
    simp only [Bool.and_eq_true] at hc
    obtain ⟨e1, e2, hs⟩ := hc
    have := Nat.eq_of_beq_eq_true e1
    subst this
    have e2 := (eqFn (a := undef) (b := undef) 65536).2 _ _ e2
    subst e2
    simp only [fitL, Bool.and_eq_true, List.all_eq_true, Nat.ble_eq, Nat.blt_eq] at hfit
    obtain ⟨hle, ha, hv, hl0, hln⟩ := hfit
    have k0 : ∀ i b, getH (mkH l0) i = some b → i < nx ∧ lowB nx b = true ∧ lowB n1 b = true := fun i b hb => hl0 _ (mkH_mem hb)
    have kn : ∀ i b, getH (mkH ln) i = some b → nx ≤ i ∧ i < n1 ∧ lowB n1 b = true := fun i b hb => hln _ (mkH_mem hb)
    have he : Emb id (mkH l0) nx H nx := ⟨fun i hi => hi, fun i j _ _ h => h, fun i b hb => ⟨by rw [renB_id]; exact subLt_ok hs i b hb, (k0 i b hb).2.1⟩, fun i hi => by
      cases hg : getH (mkH l0) i with
      | none => rfl
      | some b => have := (k0 i b hg).1; omega⟩
    obtain ⟨H', h1, h2, h3⟩ := emb_cs hcs he (by rw [List.all_eq_true]; exact ha) hle (fun i hi => by
        rw [mkH_app]
        cases hg : getH (mkH ln) i with
        | none => rfl
        | some b => have := (kn i b hg).1; omega) (fun i b hb => by
        rw [mkH_app] at hb
        cases hg : getH (mkH ln) i with
        | none => rw [hg] at hb; exact (k0 i b hb).2.2
        | some b' => rw [hg] at hb; cases hb; exact (kn i _ hg).2.2) (fun i hi => by
        rw [mkH_app]
        cases hg : getH (mkH ln) i with
        | some b => have := (kn i b hg).2.1; omega
        | none =>
          cases hg0 : getH (mkH l0) i with
          | none => rfl
          | some b => have := (k0 i b hg0).1; omega) hv
    have hid : newρ id nx nx = id := by
      funext i
      unfold newρ
      by_cases e : i < nx
      · rw [if_pos e]
      · rw [if_neg e]; show nx + (i - nx) = i; omega
    rw [hid, ren_id, renL_id, show nx + (n1 - nx) = n1 by omega] at h1
    rw [hid, show nx + (n1 - nx) = n1 by omega] at h3
    refine ⟨h1.1, fun F args' w hr hvl => (h1.2 F args' w hr hvl).mono fun e w' ⟨v', F', he', hvr, hst⟩ => ⟨v', F', he', hvr, hst.wk fun i b hb => .inl ?_⟩⟩
    rw [addL_get] at hb
    cases hg : getH (mkH ln) i with
    | some b' =>
      rw [hg] at hb; cases hb
      have h4 : getH (mkH (ln ++ l0)) i = some b := by rw [mkH_app, hg]; rfl
      have := (h3.blk i b h4).1
      rw [renB_id] at this
      exact this
    | none =>
      rw [hg] at hb
      have hb : getH H i = some b := hb
      have hi : i < nx := by
        rcases Nat.lt_or_ge i nx with g | g
        · exact g
        · rw [hr.top i g] at hb; cases hb
      rw [h2 i hi]; exact hb
end Go.Clo
