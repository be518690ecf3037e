/-
  The arguments of chapter 33's laws, opened: a graph, a verdict.
-/
import Derived.Test.YtdecggbglnbhlaaGreatDoorK32
set_option linter.unusedSimpArgs false
set_option linter.unusedVariables false
set_option linter.unusedSectionVars false
namespace Go.Proofs.YtdecggbglnbhlaaGreatDoor
open Go.ChangeShapes Go.WideShapes Go.ChangeAt Go.RowKit Go.Joins Go.Deep Go.Clo

section
variable {X : Type} {enc : TypeId × Value → X} {W : World} {b0 base : Nat} {spare : Nat → Bool} {held : Bool}

theorem cells24 : Tryz.prog.cellTypes Tryz.prog.depth 24 = some [3, 22] := by kernel_rfl
set_option maxRecDepth 100000 in
theorem graph_open {v : Value} {d : DataW X} {p : List MemPlace} (hv : Value.okWide Tryz.prog W .any b0 24 v) (h : DataW.Trod enc Tryz.prog W base spare held 24 v d p) :
    ∃ (N : Int) (A : Option Addr) (len cap n : Nat) (y : DataW X × List MemPlace), v = .agg #[.int .i64 N, .slice A len cap] ∧ (Lit.int .i64 N).wf = true ∧ Cell.ok Tryz.prog W .any b0 22 (.slice A len cap) ∧
      DataW.trod enc Tryz.prog W base spare held n 22 [.slice A len cap] = some y := by
  have hv' := hv
  obtain ⟨v0, v1, y0, y1, n, rfl, rfl, rfl, h0, h1⟩ := open_agg2 Tryz.underlying24 (by kernel_rfl) (by kernel_rfl) hv h
  obtain ⟨N, e0, _, hN⟩ := DataW.trod_int Tryz.underlying3 h0
  simp only [List.cons.injEq, and_true] at e0
  subst e0
  simp only [Value.okWide, Tryz.underlying24] at hv'
  obtain ⟨cs, e, _, ts, hts, _, hrow⟩ := hv'
  cases e
  rw [cells24] at hts
  cases hts
  obtain ⟨u, hu, hc⟩ := hrow 1 v1 rfl
  cases hu
  obtain ⟨A, len, cap, rfl⟩ : ∃ A len cap, v1 = .slice A len cap := by
    simp only [Cell.okWide, Tryz.underlying22] at hc
    cases v1 <;> simp_all [Cell.ok]
  exact ⟨N, A, len, cap, n, y1, rfl, hN, okWide_cell Tryz.underlying22 hc, h1⟩

theorem u32_elem {n : Nat} {cs : List Value} {y : DataW X × List MemPlace} (h : DataW.trod enc Tryz.prog W base spare held n 48 cs = some y) : ∃ a : Nat, [Value.int .u32 (a : Int)] = cs ∧ a < 4294967296 := by
  obtain ⟨z, rfl, _, hz⟩ := DataW.trod_int Tryz.underlying48 h
  simp only [Lit.wf, Bool.and_eq_true, decide_eq_true_eq, show IntKind.u32.min = 0 from rfl, show IntKind.u32.max = 4294967295 from rfl] at hz
  exact ⟨z.toNat, by rw [Int.toNat_of_nonneg (by omega)], by omega⟩
set_option maxRecDepth 100000 in
theorem open_edges {F : FM} {H : Heap} {nx : Nat} (hi : In W F H nx) {A : Option Addr} {len cap n : Nat} {y : DataW X × List MemPlace} (hok : Cell.ok Tryz.prog W .any b0 22 (.slice A len cap)) (h : DataW.trod enc Tryz.prog W base spare held n 22 [.slice A len cap] = some y) :
    ∃ (F' : FM) (H' : Heap) (nx' : Nat) (A' : Option Addr) (es : List Nat), In W F' H' nx' ∧ F.le F' ∧ VR F' (.slice A' es.length cap) (.slice A len cap) ∧ Small es ∧ Sl H' nx' A' (u32s es) ∧ Ext H nx H' nx' ∧ Has H' nx' A' := by
  obtain ⟨F', H', nx', A', xs, h1, h2, h3, rfl, h5, h6, h7, _, h9⟩ := hi.sliceH (f := fun a : Nat => [Value.int .u32 (a : Int)]) (Pr := fun a => a < 4294967296) (sz := 1) Tryz.underlying22 (by kernel_rfl) (fun _ => rfl) hok h (fun n cs y h => u32_elem h) (fun _ => rfl)
  rw [flatMap_one] at h6
  exact ⟨F', H', nx', A', xs, h1, h2, h3, h5, h6, h7, h9⟩

theorem cells39 : Tryz.prog.cellTypes Tryz.prog.depth 39 = some [3, 27, 27] := by kernel_rfl
set_option maxRecDepth 100000 in
theorem verdict_open {v : Value} {d : DataW X} {p : List MemPlace} (hv : Value.okWide Tryz.prog W .any b0 39 v) (h : DataW.Trod enc Tryz.prog W base spare held 39 v d p) :
    ∃ (K : Int) (P Q : Option Addr) (np pc nw wc n : Nat) (y1 y2 : DataW X × List MemPlace), v = .agg #[.int .i64 K, .slice P np pc, .slice Q nw wc] ∧ Cell.ok Tryz.prog W .any b0 27 (.slice P np pc) ∧ Cell.ok Tryz.prog W .any b0 27 (.slice Q nw wc) ∧
      DataW.trod enc Tryz.prog W base spare held n 27 [.slice P np pc] = some y1 ∧ DataW.trod enc Tryz.prog W base spare held n 27 [.slice Q nw wc] = some y2 := by
  have hv' := hv
  obtain ⟨v0, v1, v2, y0, y1, y2, n, rfl, rfl, rfl, h0, h1, h2⟩ := open_agg3 Tryz.underlying39 (by kernel_rfl) (by kernel_rfl) hv h
  obtain ⟨N, e0, _, hN⟩ := DataW.trod_int Tryz.underlying3 h0
  simp only [List.cons.injEq, and_true] at e0
  subst e0
  simp only [Value.okWide, Tryz.underlying39] at hv'
  obtain ⟨cs, e, _, ts, hts, _, hrow⟩ := hv'
  cases e
  rw [cells39] at hts
  cases hts
  have sl : ∀ v, Cell.okWide Tryz.prog W .any b0 27 v → ∃ A len cap, v = .slice A len cap := by
    intro v hc
    simp only [Cell.okWide, Tryz.underlying27] at hc
    cases v <;> simp_all [Cell.ok]
  obtain ⟨u1, hu1, hc1⟩ := hrow 1 v1 rfl
  cases hu1
  obtain ⟨u2, hu2, hc2⟩ := hrow 2 v2 rfl
  cases hu2
  obtain ⟨A, len, cap, rfl⟩ := sl v1 hc1
  obtain ⟨A2, len2, cap2, rfl⟩ := sl v2 hc2
  exact ⟨N, A, A2, len, cap, len2, cap2, n, y1, y2, rfl, okWide_cell Tryz.underlying27 hc1, okWide_cell Tryz.underlying27 hc2, h1, h2⟩
end
end Go.Proofs.YtdecggbglnbhlaaGreatDoor
