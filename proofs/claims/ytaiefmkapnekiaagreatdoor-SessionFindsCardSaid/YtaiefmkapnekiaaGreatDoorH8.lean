/-
  The closed executor: runs cut in pieces: heaps written down, runs that begin and end at them.
-/
import Derived.Test.YtaiefmkapnekiaaGreatDoorH7
set_option linter.all false
namespace Go.Clo

abbrev Lit := List (Nat × Blk)
noncomputable def mkH (l : Lit) : Heap := @List.rec (Nat × Blk) (fun _ => Heap) .leaf (fun p _ H => hsK H p.1 (some p.2) id) l
theorem mkH_cons (p : Nat × Blk) (l : Lit) (i : Nat) : getH (mkH (p :: l)) i = if i = p.1 then some p.2 else getH (mkH l) i := by
  show getH (hsK (mkH l) p.1 (some p.2) id) i = _
  rw [hsK_eq]; exact getH_hs _ _ _ _
noncomputable def subLt (H : Heap) : Lit → Bool
  | [] => true
  | p :: l => match getH H p.1 with
    | some b => cond (beqB p.2 b) (subLt H l) false
    | none => false
theorem subLt_ok {H : Heap} : ∀ {l : Lit}, subLt H l = true → ∀ i b, getH (mkH l) i = some b → getH H i = some b
  | [], _, i, b, h => by rw [show mkH [] = Heap.leaf from rfl, getH_leaf] at h; cases h
  | p :: l, h, i, b, hb => by
    rw [subLt] at h
    split at h
    · rename_i b1 h1
      cases hc : beqB p.2 b1 with
      | false => rw [hc] at h; cases h
      | true =>
        rw [hc] at h
        rw [mkH_cons] at hb
        by_cases e : i = p.1
        · rw [if_pos e] at hb; cases hb
          rw [e, h1, beqB_eq hc]
        · rw [if_neg e] at hb
          exact subLt_ok h i b hb
    · cases h
/-- Blocks forgotten at the end. -/
theorem CS.sub {P : Program} {f : FuncId} {args : List Value} {H : Heap} {nx : Nat} {v : Value} {H' H2 : Heap} {nx' : Nat} (h : CS P f args H nx v H' nx') (hs : ∀ i b, getH H2 i = some b → getH H' i = some b) : CS P f args H nx v H2 nx' :=
  ⟨h.1, fun F args' w hr hv => (h.2 F args' w hr hv).mono fun e w' ⟨v', F', he, hvr, hst⟩ => ⟨v', F', he, hvr, hst.wk fun i b hb => .inl (hs i b hb)⟩⟩
/-- The same blocks at the beginning. -/
theorem CS.congr {P : Program} {f : FuncId} {args : List Value} {H H2 : Heap} {nx : Nat} {v : Value} {H' : Heap} {nx' : Nat} (h : CS P f args H nx v H' nx') (hg : ∀ i, i < nx → getH H2 i = getH H i) (ht : ∀ i, nx ≤ i → getH H i = none) : CS P f args H2 nx v H' nx' := by
  refine ⟨h.1, fun F args' w hr hv => ?_⟩
  have e : ∀ i, getH H2 i = getH H i := fun i => by
    rcases Nat.lt_or_ge i nx with g | g
    · exact hg i g
    · rw [ht i g, hr.top i g]
  refine (h.2 F args' w (hr.sub fun i b hb => by rw [e]; exact hb) hv).mono fun en w' ⟨v', F', he, hvr, hst⟩ => ⟨v', F', he, hvr, ?_⟩
  have ho : ∀ b, Own F H nx b ↔ Own F H2 nx b := fun b =>
    ⟨fun ⟨i, k, t, h1, h2, h3⟩ => ⟨i, k, t, h1, by rw [e]; exact h2, h3⟩, fun ⟨i, k, t, h1, h2, h3⟩ => ⟨i, k, t, h1, by rw [← e]; exact h2, h3⟩⟩
  exact ⟨hst.le, hst.ext, hst.os, hst.tape, hst.output, hst.size, fun b hb hn => hst.frame b hb (fun h => hn ((ho b).1 h)), fun b hb => (hst.own b hb).imp (ho b).1 id, fun i hi hn => hst.keep i hi (by rw [← e]; exact hn), fun i b hg hrb => let ⟨h1, h2⟩ := hst.rom i b hg hrb; ⟨h1, by rw [e]; exact h2⟩, hst.hr⟩
theorem Emb.sub {ρ : Nat → Nat} {H0 H1 : Heap} {n0 : Nat} {H : Heap} {nx : Nat} (h : Emb ρ H0 n0 H nx) (hs : ∀ i b, getH H1 i = some b → getH H0 i = some b) : Emb ρ H1 n0 H nx :=
  ⟨h.lt, h.inj, fun i b hb => h.blk i b (hs i b hb), fun i hi => by
    cases hg : getH H1 i with
    | none => rfl
    | some b => exact absurd (hs i b hg) (by rw [h.top i hi]; simp)⟩
/-- A run between two heaps that are written down. -/
noncomputable def litRun (P : Program) (orc : Orc) (dok : FuncId → Nat → Bool) (f : FuncId) (args : List Value) (l0 : Lit) (n0 : Nat) (v1 : Value) (l1 : Lit) (n1 : Nat) : Bool :=
  callD P orc dok 200 f args (mkH l0) n0 false fun v H n => veq 65536 v v1 && (Nat.beq n n1 && subLt H l1)
theorem litRun_cs {P : Program} (hm : P.follows .mixedOrders = true) (hNG : NamesOK P) {orc : Orc} (ho : OrcOK P orc) {dok : FuncId → Nat → Bool} (hdok : DfrOK P dok) {f : FuncId} {args : List Value} {l0 : Lit} {n0 : Nat} {v1 : Value} {l1 : Lit} {n1 : Nat}
    (h : litRun P orc dok f args l0 n0 v1 l1 n1 = true) : CS P f args (mkH l0) n0 v1 (mkH l1) n1 := by
  unfold litRun at h
  rcases callD_sound (β := Bool) hm hNG ho hdok 200 f args (mkH l0) n0 false (fun v H n => veq 65536 v v1 && (Nat.beq n n1 && subLt H l1)) with e | ⟨v, H1, nx1, e, hcs⟩
  · rw [e] at h; cases h
  · rw [e] at h
    simp only [Bool.and_eq_true] at h
    obtain ⟨h1, h2, h3⟩ := h
    have := Nat.eq_of_beq_eq_true h2
    subst this
    rw [← veq_eq h1]
    exact hcs.sub (subLt_ok h3)
/-- A run that is written down, for the executor: the same arguments, the same heap. -/
noncomputable def litO (args0 : List Value) (l0 : Lit) (n0 : Nat) (v1 : Value) (l1 : Lit) (n1 : Nat) : List Value → Heap → Nat → Option (Value × Heap × Nat) := fun args H nx =>
  cond (Nat.beq nx n0 && (veqs 65536 args args0 && sameH (mkH l0) H n0 0)) (some (v1, mkH l1, n1)) none
def lowL (n : Nat) : Lit → Bool
  | [] => true
  | p :: l => Nat.blt p.1 n && lowL n l
theorem lowL_ok {n : Nat} : ∀ {l : Lit}, lowL n l = true → ∀ i, n ≤ i → getH (mkH l) i = none
  | [], _, i, _ => getH_leaf i
  | p :: l, h, i, hi => by
    simp only [lowL, Bool.and_eq_true, Nat.blt_eq] at h
    rw [mkH_cons, if_neg (by omega)]
    exact lowL_ok h.2 i hi
theorem litO_ok {P : Program} {f : FuncId} {args0 : List Value} {l0 : Lit} {n0 : Nat} {v1 : Value} {l1 : Lit} {n1 : Nat} (hcs : CS P f args0 (mkH l0) n0 v1 (mkH l1) n1) (hlow : lowL n0 l0 = true) {args : List Value} {H : Heap} {nx : Nat} {v : Value} {H' : Heap} {nx' : Nat}
    (h : litO args0 l0 n0 v1 l1 n1 args H nx = some (v, H', nx')) : CS P f args H nx v H' nx' := by
  unfold litO at h
  cases hc : (Nat.beq nx n0 && (veqs 65536 args args0 && sameH (mkH l0) H n0 0)) with
  | false => rw [hc] at h; cases h
  | true =>
    rw [hc] at h
    cases h
    simp only [Bool.and_eq_true] at hc
    obtain ⟨h1, h2, h3⟩ := hc
    have := Nat.eq_of_beq_eq_true h1
    subst this
    have h2 := (eqFn (a := undef) (b := undef) 65536).2 _ _ h2
    subst h2
    exact hcs.congr (fun i hi => sameH_ok h3 i (by omega) (by omega)) (lowL_ok hlow)
end Go.Clo
