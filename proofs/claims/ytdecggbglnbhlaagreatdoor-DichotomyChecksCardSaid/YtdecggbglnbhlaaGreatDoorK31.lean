/-
  A range over a function whose yields are known one by one: round k gets the values enc k; what holds ahead of round k is I k.
-/
import Derived.RangeFuncBox
import Derived.RangeFuncLeaves
import Derived.RangeFuncWrites
set_option linter.unusedSimpArgs false
set_option linter.unusedVariables false
set_option linter.unusedSectionVars false
namespace Go.Clo
open Go.RowKit

theorem rangeFunc_steps {P : Program} {F : Fence} {n : Nat} {g : Operand} {ps : Array Tmp} {assign body : Code} {Q : Exit → Act → World → Prop} {a : Act} {w : World} (hro : F.round = none) (h1 : 1 ≤ n) {gf : Nat} {lb : Array Value}
    (hg : a.eval g = .func (.func gf) #[] lb) (hFg : F.fn gf) (eg : ∀ args w, (callFunc gf args).run P w = .ok (.enter gf args) w)
    {N : Nat} {enc : Nat → Array Value} (hps : ∀ k, (enc k).size = ps.size) (I : Nat → World → Prop) (hI : OwnFrom w.heap.size I)
    (hgen : ∀ (l : Nat) (J : Nat → World → Prop) (W : World), (∀ k W, J k W → I k W) →
      (∀ k W1, k < N → J k W1 → YieldAt F (n - 1 - 1) P l (enc k) W1 fun e W' => e = .returned (.bool true) ∧ J (k + 1) W') → J 0 W →
      CallsIn F (n - 1) P gf (#[.func (.yield l) #[] #[]] ++ lb) W fun e W' => (∃ v, e = .returned v) ∧ J N W')
    (h0 : I 0 w) (a₁ : Nat → Act)
    (hassign : ∀ (l k : Nat) (W : World) (K : Act → World → Prop), K (a₁ k) W →
      assign.wpIn (F.inRound l) (n - 1 - 1) P (Exit.then K (fun _ _ _ => False)) { tmps := (ps.zip (enc k)).foldl (fun t (p, v) => t.setIfInBounds p v) a.tmps, defers := [] } W)
    (hbody : ∀ (l k : Nat) (W : World), k < N → I k W → body.wpIn (F.inRound l) (n - 1 - 1) P (fun e _ W' => e = .normal ∧ KeepsFrom w.heap.size W W' ∧ I (k + 1) W') (a₁ k) W)
    (hdone : ∀ (D : Nat) (W : World), w.heap.size ≤ D → I N W → W.heap[D]? = some (.deferred (some [])) → Q .normal { a with defers := { target := .collected D, args := #[] } :: a.defers } W) :
    (Code.rangeFunc g ps assign body).wpIn F n P Q a w := by
  refine wpIn_rangeFunc fun fn hfn => ?_
  rw [hro]
  let L (st : LoopState) : Obj := .loop { state := st, pending := none, fn, tmps := a.tmps, params := ps, assign, body, defers := w.heap.size }
  let l := w.heap.size + 1
  let D := w.heap.size
  have hA : (w.alloc (.deferred (some []))).heap.size = l := by simp [l]
  have e1 : ((w.alloc (.deferred (some []))).alloc (L .ready)).heap[l]? = some (L .ready) := by
    have := World.alloc_heap_new (w.alloc (.deferred (some []))) (L .ready)
    rwa [hA] at this
  have e2 : ((w.alloc (.deferred (some []))).alloc (L .ready)).heap[D]? = some (.deferred (some [])) :=
    (Below.heap_alloc _ _ _ (by simp [D])).trans (World.alloc_heap_new w _)
  refine ⟨l, [{ target := .collected D, args := #[] }], ((w.alloc (.deferred (some []))).alloc (L .ready)), { target := .fn (.func gf) lb, args := #[.func (.yield l) #[] #[]] }, ((w.alloc (.deferred (some []))).alloc (L .ready)), gf, #[.func (.yield l) #[] #[]] ++ lb, ((w.alloc (.deferred (some []))).alloc (L .ready)), run_enterLoop_outer _ _ _ _ _, ?_, ?_, ?_, fun _ => h1, ?_⟩
  · simp only [resolve, hg]
    simp [go_sem]
  · intro f' hf'
    simp [Target.leads] at hf'
    subst hf'
    exact hFg
  · simp [invoke, go_sem, eg]
  · refine (hgen l (fun k W => I k W ∧ W.heap[l]? = some (L .ready) ∧ W.heap[D]? = some (.deferred (some []))) _ (fun k W h => h.1) ?_ ⟨hI.alloc _ (hI.alloc _ h0), e1, e2⟩).mono ?_
    · rintro k W hk ⟨hi, hl, hd⟩
      have hlt : l < W.heap.size := (Array.getElem?_eq_some_iff.1 hl).1
      have hne : D ≠ l := by simp [D, l]
      refine ⟨fn, _, assign, body, run_yield (P := P) (args := enc k) hl (hps k), roundIn_of_wpIn hfn (hassign _ k W _ ⟨_, run_beginRound hl rfl, ?_⟩)⟩
      have g1 : (W.putObj l (L .busy)).heap[l]? = some (L .busy) := World.putObj_heap_same hlt
      have g2 : (W.putObj l (L .busy)).heap[D]? = some (.deferred (some [])) := (World.putObj_heap_other hne).trans hd
      refine wpIn_mono (hbody _ k _ hk (hI.putObj _ hi (by simp [l]) hl rfl)) ?_
      rintro e a3 W3 ⟨rfl, hkeep, hi3⟩
      have k1 := hkeep.same _ _ (by simp [l]) g1 rfl
      have k2 := hkeep.same _ _ (Nat.le_refl _) g2 rfl
      refine ⟨_, _, run_endRound (P := P) none k1, rfl, hI.putObj _ hi3 (by simp [l]) k1 rfl, World.putObj_heap_same (Array.getElem?_eq_some_iff.1 k1).1, (World.putObj_heap_other hne).trans k2⟩
    · rintro e W2 ⟨⟨v, rfl⟩, hi, hl, hd⟩
      exact ⟨none, _, run_endLoop (P := P) hl (by simp), hdone _ _ (Nat.le_refl _) (hI.putObj _ hi (by simp [l]) hl rfl) ((World.putObj_heap_other (by simp [D, l])).trans hd)⟩
end Go.Clo
