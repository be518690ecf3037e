/-
  The arguments of chapter 33's laws, opened; the listed table.
-/
import Derived.Test.YtdecggbglnbhlaaGreatDoorRows
import Derived.Test.YtdecggbglnbhlaaGreatDoorK12
import Derived.WalkKit
import Derived.ProofKit
import Derived.OpenShut
import Derived.Lib.SmallJoins
import Derived.Deep.Strs
import Derived.SizedLaws
import Derived.LaidMore
import Derived.Lay
import Derived.Stop.Joined
set_option linter.unusedSimpArgs false
set_option linter.unusedVariables false
set_option linter.unusedSectionVars false
namespace Go.Proofs.YtdecggbglnbhlaaGreatDoor
open Go.ChangeShapes Go.WideShapes Go.ChangeAt Go.RowKit Go.Joins Go.Deep Go.Clo

theorem own : ownKnob Tryz.prog.godebug = none := by kernel_rfl
theorem laidOut : laidOutB Tryz.prog = true := by kernel_rfl
def laid1 : List (String × DataW Unit) := Rows.dichotomyInversionsRow.laid
theorem laid_deB : (Rows.laid_math_bits_deBruijn32tab : DataW Unit) = .agg (deB.map fun (n : Nat) => .lit (.int .u8 (n : Int))) := rfl
theorem glob0 : Tryz.prog.globalNamed (laid1.map (·.1)).head! = some 0 := by kernel_rfl

theorem tab_cell {W : World} (h : laidMetH Tryz.prog laid1 W) (r n : Nat) (hr : deB[r]? = some n) : W.cell? ⟨0, r, none⟩ = some (.int .u8 (n : Int)) := by
  have hrl : r < 32 := (List.getElem?_eq_some_iff.1 hr).1
  rw [MakeChecks.laidMetH_plain _ _ _ (by kernel_rfl)] at h
  obtain ⟨ps, ⟨g, t, cs, fuel, p, q, hg, ht, hv, hd, _, _⟩, _, _⟩ := h
  obtain rfl := Option.some.inj (glob0.symm.trans hg)
  obtain rfl := Option.some.inj ((show (Tryz.prog.globals[0]?).map (·.type) = some 138 by kernel_rfl).symm.trans ht)
  obtain ⟨xs, m, _, ex, _, hl, hel⟩ := DataW.trod_array Tryz.underlying138 hd
  have c5 : Tryz.prog.cellsOf 5 = 1 := by kernel_rfl
  have hE := hel r hrl
  rw [c5, Nat.mul_one, List.getElem?_eq_getElem (by omega)] at hE
  obtain ⟨z, e1, e2, _⟩ := DataW.trod_int Tryz.underlying5 hE
  have e3 : (xs.map (·.1)) = deB.map fun (n : Nat) => .lit (.int .u8 (n : Int)) := (DataW.agg.inj (Prod.mk.inj ex).1).symm
  have e4 : (xs.map (·.1))[r]? = (deB.map fun (n : Nat) => (DataW.lit (.int .u8 (n : Int)) : DataW Unit))[r]? := by rw [e3]
  rw [List.getElem?_map, List.getElem?_map, List.getElem?_eq_getElem (by omega : r < xs.length), hr, e2] at e4
  have hz : z = (n : Int) := by
    simpa only [Option.map_some, Option.some.injEq, DataW.lit.injEq, Lit.int.injEq, true_and] using e4
  rw [World.var?_cell hg hv r, ← hz]
  have : cs.toList[r]? = some (.int .u8 z) := by
    have h0 : ((cs.toList.drop r).take 1)[0]? = some (.int .u8 z) := by rw [e1]; rfl
    simpa using h0
  simpa using this
theorem glw_of_laid {W : World} (h : laidMetH Tryz.prog laid1 W) : GlW W := fun x hx => by
  rw [List.mem_singleton.1 hx]
  have h0 := tab_cell h 0 0 rfl
  constructor
  · unfold World.cell? at h0
    rcases Nat.lt_or_ge 0 W.heap.size with g | g
    · exact g
    · rw [Array.getElem?_eq_none g] at h0; cases h0
  · intro i v hv
    simp only [List.getElem?_map, Option.map_eq_some_iff] at hv
    obtain ⟨n, hn, rfl⟩ := hv
    exact tab_cell h i n hn

section
variable {X : Type} {enc : TypeId × Value → X} {W : World} {b0 base : Nat} {spare : Nat → Bool} {held : Bool}

theorem okWide_cell {P : Program} {r : Reach} {t e : TypeId} {A : Option Addr} {len cap : Nat} (ht : P.underlying t = some (.slice e)) (h : Cell.okWide P W r b0 t (.slice A len cap)) : Cell.ok P W r b0 t (.slice A len cap) := by
  simp only [Cell.okWide, ht] at h
  exact h
theorem okWide_value {P : Program} {r : Reach} {t e : TypeId} {A : Option Addr} {len cap : Nat} (ht : P.underlying t = some (.slice e)) (h : Value.okWide P W r b0 t (.slice A len cap)) : Cell.ok P W r b0 t (.slice A len cap) := by
  simp only [Value.okWide, ht] at h
  exact okWide_cell ht h
theorem flatMap_one {α : Type} (f : α → Value) (xs : List α) : (xs.flatMap fun a => [f a]) = xs.map f := by
  induction xs with
  | nil => rfl
  | cons a xs ih => simp [ih]
set_option maxRecDepth 100000 in
theorem open_ints {F : FM} {H : Heap} {nx : Nat} (hi : In W F H nx) {A : Option Addr} {len cap n : Nat} {y : DataW X × List MemPlace} (hok : Cell.ok Tryz.prog W .any b0 27 (.slice A len cap)) (h : DataW.trod enc Tryz.prog W base spare held n 27 [.slice A len cap] = some y) :
    ∃ (F' : FM) (H' : Heap) (nx' : Nat) (A' : Option Addr) (l : List Int), In W F' H' nx' ∧ F.le F' ∧ VR F' (.slice A' l.length cap) (.slice A len cap) ∧ l.length = len ∧ Sl H' nx' A' (i64s l) ∧ Ext H nx H' nx' ∧ Has H' nx' A' := by
  obtain ⟨F', H', nx', A', xs, h1, h2, h3, rfl, h5, h6, h7, _, h9⟩ := hi.sliceH (f := fun a : Int => [Value.int .i64 a]) (Pr := fun _ => True) (sz := 1) Tryz.underlying27 (by kernel_rfl) (fun _ => rfl) hok h (fun n cs y h => by
    obtain ⟨s, rfl, _, _⟩ := DataW.trod_int Tryz.underlying3 h
    exact ⟨s, rfl, trivial⟩) (fun _ => rfl)
  rw [flatMap_one] at h6
  exact ⟨F', H', nx', A', xs, h1, h2, h3, rfl, h6, h7, h9⟩
end

/-- The step from a claim on the abstract heap to the row's post-condition. -/
theorem law_post {X : Type} {enc : TypeId × Value → X} {fn : Func} {s : ChangeSpec} {W W' : World} {args : Array Value} {ds gs : List (DataW X)} {before p : List MemPlace}
    (hW : DataW.Whole enc Tryz.prog fn.params.toList s.vars false W args.toList ds gs before) (hv : s.vars = []) (hres : (s.fn X (ds ++ gs)).results = [.lit (.bool true)]) (hvars : (s.fn X (ds ++ gs)).vars = [])
    (hargs : (s.fn X (ds ++ gs)).args = ds) (hrt : fn.resultTypes = #[4]) (hts : ∀ t ∈ fn.params.toList, Tryz.prog.readableRec t = true ∧ t < Tryz.prog.types.size) (hb : Below W.heap.size W W')
    (hA : DataW.TrodAll enc Tryz.prog W 0 (fun _ => true) true fn.params.toList args.toList ds p) (hp : ∀ x ∈ p, x ∈ before) :
    s.post enc Tryz.prog fn false true false false W args (.bool true) W' := by
  refine post_of_below (pa := p) (pv := []) hW hb (fun _ _ _ => ?_) ?_ ?_
  · rw [hres, hrt]
    exact trodAll_cons_mk (shut_bool Tryz.underlying4 _) trodAll_mk0
  · rw [hargs]
    exact trodAll_below laidOut hb _ _ _ _ hts hA fun x hx => hW.lt x (hp x hx)
  · rw [hv, hvars]; rfl
theorem shaped (os : Os) : (World.laidAll Tryz.prog os laid1).Shaped Tryz.prog := World.shaped_of_ZipB (by kernel_rfl) (by kernel_rfl)
theorem met (os : Os) (args : Array Value) : laidMetH Tryz.prog laid1 ((World.laidAll Tryz.prog os laid1).forCall (fun _ _ => 0) ⟨#[], args, []⟩).memory := by
  rw [MakeChecks.laidMetH_plain _ _ _ (by kernel_rfl)]; exact laidMet_laidAll _ (by kernel_rfl) (by kernel_rfl)
end Go.Proofs.YtdecggbglnbhlaaGreatDoor
