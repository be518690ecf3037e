/-
  The arguments of chapter 30's laws, opened: a graph, a list of bags, lists of numbers.
-/
import Derived.Test.YtaieijjfabbfeaaRows
import Derived.Test.YtaieijjfabbfeaaS3
import Derived.Test.YtaieijjfabbfeaaCloY
import Derived.WalkKit
import Derived.ProofKit
import Derived.OpenShut
import Derived.Lib.SmallJoins
import Derived.Deep.Strs
set_option linter.unusedSimpArgs false
set_option linter.unusedVariables false
set_option linter.unusedSectionVars false
namespace Go.Proofs.Ytaieijjfabbfeaa
open Go.ChangeShapes Go.WideShapes Go.ChangeAt Go.RowKit Go.Joins Go.Deep Go.Clo

theorem own : ownKnob Try.prog.godebug = none := by kernel_rfl
theorem laid : laidOutB Try.prog = true := by kernel_rfl

section
variable {X : Type} {enc : TypeId × Value → X} {W : World} {b0 base : Nat} {spare : Nat → Bool} {held : Bool}

theorem okWide_cell {P : Program} {r : Reach} {t e : TypeId} {A : Option Addr} {len cap : Nat} (ht : P.underlying t = some (.slice e)) (h : Cell.okWide P W r b0 t (.slice A len cap)) : Cell.ok P W r b0 t (.slice A len cap) := by
  simp only [Cell.okWide, ht] at h
  exact h
theorem okWide_value {P : Program} {r : Reach} {t e : TypeId} {A : Option Addr} {len cap : Nat} (ht : P.underlying t = some (.slice e)) (h : Value.okWide P W r b0 t (.slice A len cap)) : Cell.ok P W r b0 t (.slice A len cap) := by
  simp only [Value.okWide, ht] at h
  exact okWide_cell ht h

theorem cells24 : Try.prog.cellTypes Try.prog.depth 24 = some [3, 22] := by kernel_rfl
set_option maxRecDepth 100000 in
theorem graph_open {v : Value} {d : DataW X} {p : List MemPlace} (hv : Value.okWide Try.prog W .any b0 24 v) (h : DataW.Trod enc Try.prog W base spare held 24 v d p) :
    ∃ (N : Int) (A : Option Addr) (len cap n : Nat) (y : DataW X × List MemPlace), v = .agg #[.int .i64 N, .slice A len cap] ∧ (Lit.int .i64 N).wf = true ∧ Cell.ok Try.prog W .any b0 22 (.slice A len cap) ∧
      DataW.trod enc Try.prog W base spare held n 22 [.slice A len cap] = some y := by
  have hv' := hv
  obtain ⟨v0, v1, y0, y1, n, rfl, rfl, rfl, h0, h1⟩ := open_agg2 Try.underlying24 (by kernel_rfl) (by kernel_rfl) hv h
  obtain ⟨N, e0, _, hN⟩ := DataW.trod_int Try.underlying3 h0
  simp only [List.cons.injEq, and_true] at e0
  subst e0
  simp only [Value.okWide, Try.underlying24] at hv'
  obtain ⟨cs, e, _, ts, hts, _, hrow⟩ := hv'
  cases e
  rw [cells24] at hts
  cases hts
  obtain ⟨u, hu, hc⟩ := hrow 1 v1 rfl
  cases hu
  obtain ⟨A, len, cap, rfl⟩ : ∃ A len cap, v1 = .slice A len cap := by
    simp only [Cell.okWide, Try.underlying22] at hc
    cases v1 <;> simp_all [Cell.ok]
  exact ⟨N, A, len, cap, n, y1, rfl, hN, okWide_cell Try.underlying22 hc, h1⟩

theorem u32_elem {n : Nat} {cs : List Value} {y : DataW X × List MemPlace} (h : DataW.trod enc Try.prog W base spare held n 41 cs = some y) : ∃ a : Nat, [Value.int .u32 (a : Int)] = cs ∧ a < 4294967296 := by
  obtain ⟨z, rfl, _, hz⟩ := DataW.trod_int Try.underlying41 h
  simp only [Lit.wf, Bool.and_eq_true, decide_eq_true_eq, show IntKind.u32.min = 0 from rfl, show IntKind.u32.max = 4294967295 from rfl] at hz
  exact ⟨z.toNat, by rw [Int.toNat_of_nonneg (by omega)], by omega⟩
theorem flatMap_one {α : Type} (f : α → Value) (xs : List α) : (xs.flatMap fun a => [f a]) = xs.map f := by
  induction xs with
  | nil => rfl
  | cons a xs ih => simp [ih]
set_option maxRecDepth 100000 in
theorem open_edges {F : FM} {H : Heap} {nx : Nat} (hi : In W F H nx) {A : Option Addr} {len cap n : Nat} {y : DataW X × List MemPlace} (hok : Cell.ok Try.prog W .any b0 22 (.slice A len cap)) (h : DataW.trod enc Try.prog W base spare held n 22 [.slice A len cap] = some y) :
    ∃ (F' : FM) (H' : Heap) (nx' : Nat) (A' : Option Addr) (es : List Nat), In W F' H' nx' ∧ F.le F' ∧ VR F' (.slice A' es.length cap) (.slice A len cap) ∧ Small es ∧ Sl H' nx' A' (u32s es) ∧ Ext H nx H' nx' := by
  obtain ⟨F', H', nx', A', xs, h1, h2, h3, rfl, h5, h6, h7, _⟩ := hi.slice (f := fun a : Nat => [Value.int .u32 (a : Int)]) (Pr := fun a => a < 4294967296) (sz := 1) Try.underlying22 (by kernel_rfl) (fun _ => rfl) hok h (fun n cs y h => u32_elem h) (fun _ => rfl)
  rw [flatMap_one] at h6
  exact ⟨F', H', nx', A', xs, h1, h2, h3, h5, h6, h7⟩

set_option maxRecDepth 100000 in
theorem bag_elem {n : Nat} {cs : List Value} {y : DataW X × List MemPlace} (h : DataW.trod enc Try.prog W base spare held n 48 cs = some y) : ∃ a : Bag, bagC a = cs ∧ a.key < 4294967296 := by
  obtain ⟨y0, y1, y2, m, _, hl, h0, h1, h2⟩ := trod_struct3 Try.underlying48 h
  have hl3 : cs.length = 3 := hl.trans (by kernel_rfl)
  obtain ⟨c0, c1, c2, rfl⟩ : ∃ c0 c1 c2, cs = [c0, c1, c2] := by
    match cs, hl3 with
    | [a, b, c], _ => exact ⟨a, b, c, rfl⟩
  have e3 : Try.prog.cellsOf 3 = 1 := by kernel_rfl
  have e21 : Try.prog.cellsOf 41 = 1 := by kernel_rfl
  simp only [e3, e21] at h0 h1 h2
  obtain ⟨z0, g0, _, _⟩ := DataW.trod_int Try.underlying3 h0
  obtain ⟨z1, g1, _, w1⟩ := DataW.trod_int Try.underlying41 h1
  obtain ⟨z2, g2, _, _⟩ := DataW.trod_int Try.underlying3 h2
  simp at g0 g1 g2
  subst g0 g1 g2
  simp only [Lit.wf, Bool.and_eq_true, decide_eq_true_eq, show IntKind.u32.min = 0 from rfl, show IntKind.u32.max = 4294967295 from rfl] at w1
  exact ⟨⟨z0, z1.toNat, z2⟩, by simp only [bagC]; rw [Int.toNat_of_nonneg (by omega)], by simp only; omega⟩
set_option maxRecDepth 100000 in
theorem open_bags {F : FM} {H : Heap} {nx : Nat} (hi : In W F H nx) {A : Option Addr} {len cap n : Nat} {y : DataW X × List MemPlace} (hok : Cell.ok Try.prog W .any b0 25 (.slice A len cap)) (h : DataW.trod enc Try.prog W base spare held n 25 [.slice A len cap] = some y) :
    ∃ (F' : FM) (H' : Heap) (nx' : Nat) (A' : Option Addr) (bs : List Bag), In W F' H' nx' ∧ F.le F' ∧ VR F' (.slice A' bs.length cap) (.slice A len cap) ∧ KeyOK bs ∧ Sl H' nx' A' (bagsC bs) ∧ Ext H nx H' nx' := by
  obtain ⟨F', H', nx', A', xs, h1, h2, h3, rfl, h5, h6, h7, _⟩ := hi.slice (f := bagC) (Pr := fun a => a.key < 4294967296) (sz := 3) Try.underlying25 (by kernel_rfl) (fun _ => rfl) hok h (fun n cs y h => bag_elem h) (fun _ => rfl)
  exact ⟨F', H', nx', A', xs, h1, h2, h3, h5, h6, h7⟩
end

/-- The step from a claim on the abstract heap to the row's post-condition, for a law of three arguments. -/
theorem law_post {X : Type} {enc : TypeId × Value → X} {fn : Func} {s : ChangeSpec} {W W' : World} {args : Array Value} {ds gs : List (DataW X)} {before p : List MemPlace}
    (hW : DataW.Whole enc Try.prog fn.params.toList s.vars false W args.toList ds gs before) (hv : s.vars = []) (hres : (s.fn X (ds ++ gs)).results = [.lit (.bool true)]) (hvars : (s.fn X (ds ++ gs)).vars = [])
    (hargs : (s.fn X (ds ++ gs)).args = ds) (hrt : fn.resultTypes = #[4]) (hts : ∀ t ∈ fn.params.toList, Try.prog.readableRec t = true ∧ t < Try.prog.types.size) (hb : Below W.heap.size W W')
    (hA : DataW.TrodAll enc Try.prog W 0 (fun _ => true) true fn.params.toList args.toList ds p) (hp : ∀ x ∈ p, x ∈ before) :
    s.post enc Try.prog fn false true false false W args (.bool true) W' := by
  refine post_of_below (pa := p) (pv := []) hW hb (fun _ _ _ => ?_) ?_ ?_
  · rw [hres, hrt]
    exact trodAll_cons_mk (shut_bool Try.underlying4 _) trodAll_mk0
  · rw [hargs]
    exact trodAll_below laid hb _ _ _ _ hts hA fun x hx => hW.lt x (hp x hx)
  · rw [hv, hvars]; rfl
end Go.Proofs.Ytaieijjfabbfeaa
