/-
  The arguments of chapter 56's laws, opened: a list of names, a verdict, a text.
-/
import Derived.Test.YtjpgddpobnjmkaaDoorRows
import Derived.Test.YtjpgddpobnjmkaaDoorK26
import Derived.WalkKit
import Derived.ProofKit
import Derived.OpenShut
import Derived.Lib.SmallJoins
import Derived.Deep.Strs
import Derived.SizedLaws
import Derived.ChangeMaps5
import Derived.LaidMore
import Derived.Lay
import Derived.Stop.Joined
set_option linter.unusedSimpArgs false
set_option linter.unusedVariables false
set_option linter.unusedSectionVars false
namespace Go.Proofs.YtjpgddpobnjmkaaDoor
open Go.ChangeShapes Go.WideShapes Go.ChangeAt Go.RowKit Go.Joins Go.Deep Go.Clo

theorem own : ownKnob Tryd.prog.godebug = none := by kernel_rfl
theorem laidOut : laidOutB Tryd.prog = true := by kernel_rfl
def laid2 : List (String × DataW Unit) := Rows.explainVerdictsRow.laid

section
variable {X : Type} {enc : TypeId × Value → X} {W : World} {b0 base : Nat} {spare : Nat → Bool} {held : Bool}

theorem okWide_cell {P : Program} {r : Reach} {t e : TypeId} {A : Option Addr} {len cap : Nat} (ht : P.underlying t = some (.slice e)) (h : Cell.okWide P W r b0 t (.slice A len cap)) : Cell.ok P W r b0 t (.slice A len cap) := by
  simp only [Cell.okWide, ht] at h
  exact h
theorem okWide_value {P : Program} {r : Reach} {t e : TypeId} {A : Option Addr} {len cap : Nat} (ht : P.underlying t = some (.slice e)) (h : Value.okWide P W r b0 t (.slice A len cap)) : Cell.ok P W r b0 t (.slice A len cap) := by
  simp only [Value.okWide, ht] at h
  exact okWide_cell ht h
theorem len_small {P : Program} {t e : TypeId} {n : Nat} {A : Option Addr} {len cap : Nat} {x : DataW X × List MemPlace} (ht : P.underlying t = some (.slice e)) (hb : 1 ≤ P.bytesOf e) (h : DataW.trod enc P W base spare held n t [.slice A len cap] = some x) (hw : ∀ k ∈ x.1.weights P t, k ≤ reachBytes) : len ≤ reachBytes := by
  rcases DataW.trod_slice ht h with ⟨h0, _⟩ | ⟨a, len', cap', elems, rest, m, _, h0, rfl, _, _, _, hlen, _⟩
  · simp at h0
    omega
  · simp at h0
    obtain ⟨_, rfl, _⟩ := h0
    have h1 := hw ((elems.length + rest.length) * P.bytesOf e) (by simp [DataW.weights, ht])
    have h2 := Nat.mul_le_mul (show len ≤ elems.length + rest.length by omega) hb
    omega
theorem cap_zero {P : Program} {t e : TypeId} {n : Nat} {len cap : Nat} {x : DataW X × List MemPlace} (ht : P.underlying t = some (.slice e)) (h : DataW.trod enc P W base spare held n t [.slice none len cap] = some x) : cap = 0 := by
  rcases DataW.trod_slice ht h with ⟨h0, _⟩ | ⟨a, len', cap', elems, rest, m, _, h0, _⟩
  · simp at h0; exact h0.2
  · simp at h0

theorem cells25 : Tryd.prog.cellTypes Tryd.prog.depth 25 = some [3, 23, 23] := by kernel_rfl
set_option maxRecDepth 100000 in
theorem verdict_open {v : Value} {d : DataW X} {p : List MemPlace} (hv : Value.okWide Tryd.prog W .any b0 25 v) (h : DataW.Trod enc Tryd.prog W base spare held 25 v d p) :
    ∃ (K : Int) (P Q : Option Addr) (np pc nw wc n : Nat) (y0 y1 y2 : DataW X × List MemPlace), v = .agg #[.int .i64 K, .slice P np pc, .slice Q nw wc] ∧ d = .agg [y0.1, y1.1, y2.1] ∧ Cell.ok Tryd.prog W .any b0 23 (.slice P np pc) ∧ Cell.ok Tryd.prog W .any b0 23 (.slice Q nw wc) ∧
      DataW.trod enc Tryd.prog W base spare held n 23 [.slice P np pc] = some y1 ∧ DataW.trod enc Tryd.prog W base spare held n 23 [.slice Q nw wc] = some y2 := by
  have hv' := hv
  obtain ⟨v0, v1, v2, y0, y1, y2, n, rfl, rfl, rfl, h0, h1, h2⟩ := open_agg3 Tryd.underlying25 (by kernel_rfl) (by kernel_rfl) hv h
  obtain ⟨N, e0, _, hN⟩ := DataW.trod_int Tryd.underlying3 h0
  simp only [List.cons.injEq, and_true] at e0
  subst e0
  simp only [Value.okWide, Tryd.underlying25] at hv'
  obtain ⟨cs, e, _, ts, hts, _, hrow⟩ := hv'
  cases e
  rw [cells25] at hts
  cases hts
  have sl : ∀ v, Cell.okWide Tryd.prog W .any b0 23 v → ∃ A len cap, v = .slice A len cap := by
    intro v hc
    simp only [Cell.okWide, Tryd.underlying23] at hc
    cases v <;> simp_all [Cell.ok]
  obtain ⟨u1, hu1, hc1⟩ := hrow 1 v1 rfl
  cases hu1
  obtain ⟨u2, hu2, hc2⟩ := hrow 2 v2 rfl
  cases hu2
  obtain ⟨A, len, cap, rfl⟩ := sl v1 hc1
  obtain ⟨A2, len2, cap2, rfl⟩ := sl v2 hc2
  exact ⟨N, A, A2, len, cap, len2, cap2, n, y0, y1, y2, rfl, rfl, okWide_cell Tryd.underlying23 hc1, okWide_cell Tryd.underlying23 hc2, h1, h2⟩

theorem flatMap_one {α : Type} (f : α → Value) (xs : List α) : (xs.flatMap fun a => [f a]) = xs.map f := by
  induction xs with
  | nil => rfl
  | cons a xs ih => simp [ih]
set_option maxRecDepth 100000 in
theorem open_names {F : FM} {H : Heap} {nx : Nat} (hi : In W F H nx) {A : Option Addr} {len cap n : Nat} {y : DataW X × List MemPlace} (hok : Cell.ok Tryd.prog W .any b0 22 (.slice A len cap)) (h : DataW.trod enc Tryd.prog W base spare held n 22 [.slice A len cap] = some y) :
    ∃ (F' : FM) (H' : Heap) (nx' : Nat) (A' : Option Addr) (vs : List ByteArray), In W F' H' nx' ∧ F.le F' ∧ VR F' (.slice A' vs.length cap) (.slice A len cap) ∧ vs.length = len ∧ Sl H' nx' A' (strs vs) ∧ Ext H nx H' nx' ∧ Has H' nx' A' ∧ (A' = none → cap = 0) := by
  obtain ⟨F', H', nx', A', xs, h1, h2, h3, rfl, h5, h6, h7, _, h9⟩ := hi.sliceH (f := fun a : ByteArray => [Value.string a]) (Pr := fun _ => True) (sz := 1) Tryd.underlying22 (by kernel_rfl) (fun _ => rfl) hok h (fun n cs y h => by
    obtain ⟨s, rfl, _, _⟩ := DataW.trod_string Tryd.underlying9 h
    exact ⟨s, rfl, trivial⟩) (fun _ => rfl)
  rw [flatMap_one] at h6
  refine ⟨F', H', nx', A', xs, h1, h2, h3, rfl, h6, h7, h9, fun e => ?_⟩
  subst e
  have := h3.sliceN_inv
  cases this
  exact cap_zero Tryd.underlying22 h
set_option maxRecDepth 100000 in
theorem open_ints {F : FM} {H : Heap} {nx : Nat} (hi : In W F H nx) {A : Option Addr} {len cap n : Nat} {y : DataW X × List MemPlace} (hok : Cell.ok Tryd.prog W .any b0 23 (.slice A len cap)) (h : DataW.trod enc Tryd.prog W base spare held n 23 [.slice A len cap] = some y) :
    ∃ (F' : FM) (H' : Heap) (nx' : Nat) (A' : Option Addr) (l : List Int), In W F' H' nx' ∧ F.le F' ∧ VR F' (.slice A' l.length cap) (.slice A len cap) ∧ l.length = len ∧ Sl H' nx' A' (i64s l) ∧ Ext H nx H' nx' := by
  obtain ⟨F', H', nx', A', xs, h1, h2, h3, rfl, h5, h6, h7, _⟩ := hi.slice (f := fun a : Int => [Value.int .i64 a]) (Pr := fun _ => True) (sz := 1) Tryd.underlying23 (by kernel_rfl) (fun _ => rfl) hok h (fun n cs y h => by
    obtain ⟨s, rfl, _, _⟩ := DataW.trod_int Tryd.underlying3 h
    exact ⟨s, rfl, trivial⟩) (fun _ => rfl)
  rw [flatMap_one] at h6
  exact ⟨F', H', nx', A', xs, h1, h2, h3, rfl, h6, h7⟩
end

/-- The step from a claim on the abstract heap to the row's post-condition. -/
theorem law_post {X : Type} {enc : TypeId × Value → X} {fn : Func} {s : ChangeSpec} {W W' : World} {args : Array Value} {ds gs : List (DataW X)} {before p : List MemPlace}
    (hW : DataW.Whole enc Tryd.prog fn.params.toList s.vars false W args.toList ds gs before) (hv : s.vars = []) (hres : (s.fn X (ds ++ gs)).results = [.lit (.bool true)]) (hvars : (s.fn X (ds ++ gs)).vars = [])
    (hargs : (s.fn X (ds ++ gs)).args = ds) (hrt : fn.resultTypes = #[4]) (hts : ∀ t ∈ fn.params.toList, Tryd.prog.readableRec t = true ∧ t < Tryd.prog.types.size) (hb : Below W.heap.size W W')
    (hA : DataW.TrodAll enc Tryd.prog W 0 (fun _ => true) true fn.params.toList args.toList ds p) (hp : ∀ x ∈ p, x ∈ before) :
    s.post enc Tryd.prog fn false true false false W args (.bool true) W' := by
  refine post_of_below (pa := p) (pv := []) hW hb (fun _ _ _ => ?_) ?_ ?_
  · rw [hres, hrt]
    exact trodAll_cons_mk (shut_bool Tryd.underlying4 _) trodAll_mk0
  · rw [hargs]
    exact trodAll_below laidOut hb _ _ _ _ hts hA fun x hx => hW.lt x (hp x hx)
  · rw [hv, hvars]; rfl
theorem shaped (os : Os) : (World.laidAll Tryd.prog os laid2).Shaped Tryd.prog := World.shaped_of_ZipB (by kernel_rfl) (by kernel_rfl)
theorem met (os : Os) (args : Array Value) : laidMetH Tryd.prog laid2 ((World.laidAll Tryd.prog os laid2).forCall (fun _ _ => 0) ⟨#[], args, []⟩).memory := by
  rw [MakeChecks.laidMetH_plain _ _ _ (by kernel_rfl)]; exact laidMet_laidAll _ (by kernel_rfl) (by kernel_rfl)
end Go.Proofs.YtjpgddpobnjmkaaDoor
