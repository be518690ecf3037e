/-
  THE STATEMENT EliminationFills: for every input the law returns true, and each argument reads behind the call as it did. No condition.
  The arguments of chapter 30's laws, opened: a graph, a list of bags, lists of numbers.
-/
import Derived.Test.YtaieijjfabbfeaaRows
import Derived.Test.YtaieijjfabbfeaaF4
import Derived.WalkKit
import Derived.ProofKit
import Derived.OpenShut
import Derived.Lib.SmallJoins
import Derived.Deep.Strs
import Derived.Test.YtaieijjfabbfeaaF7
set_option linter.unusedSimpArgs false
set_option linter.unusedVariables false
set_option linter.unusedSectionVars false
namespace Go.Proofs.Ytaieijjfabbfeaa
open Go.ChangeShapes Go.WideShapes Go.ChangeAt Go.RowKit Go.Joins Go.Deep Go.Clo

theorem own : ownKnob Try.prog.godebug = none := by kernel_rfl
theorem laid : laidOutB Try.prog = true := by kernel_rfl

section
variable {X : Type} {enc : TypeId × Value → X} {W : World} {b0 base : Nat} {spare : Nat → Bool} {held : Bool}

theorem okWide_cell {P : Program} {r : Reach} {t e : TypeId} {A : Option Addr} {len cap : Nat} (ht : P.underlying t = some (.slice e)) (h : Cell.okWide P W r b0 t (.slice A len cap)) : Cell.ok P W r b0 t (.slice A len cap) := by
  simp only [Cell.okWide, ht] at h
  exact h
theorem okWide_value {P : Program} {r : Reach} {t e : TypeId} {A : Option Addr} {len cap : Nat} (ht : P.underlying t = some (.slice e)) (h : Value.okWide P W r b0 t (.slice A len cap)) : Cell.ok P W r b0 t (.slice A len cap) := by
  simp only [Value.okWide, ht] at h
  exact okWide_cell ht h

theorem cells24 : Try.prog.cellTypes Try.prog.depth 24 = some [3, 22] := by kernel_rfl
set_option maxRecDepth 100000 in
theorem graph_open {v : Value} {d : DataW X} {p : List MemPlace} (hv : Value.okWide Try.prog W .any b0 24 v) (h : DataW.Trod enc Try.prog W base spare held 24 v d p) :
    ∃ (N : Int) (A : Option Addr) (len cap n : Nat) (y : DataW X × List MemPlace), v = .agg #[.int .i64 N, .slice A len cap] ∧ (Lit.int .i64 N).wf = true ∧ Cell.ok Try.prog W .any b0 22 (.slice A len cap) ∧
      DataW.trod enc Try.prog W base spare held n 22 [.slice A len cap] = some y := by
  have hv' := hv
  obtain ⟨v0, v1, y0, y1, n, rfl, rfl, rfl, h0, h1⟩ := open_agg2 Try.underlying24 (by kernel_rfl) (by kernel_rfl) hv h
  obtain ⟨N, e0, _, hN⟩ := DataW.trod_int Try.underlying3 h0
  simp only [List.cons.injEq, and_true] at e0
  subst e0
  simp only [Value.okWide, Try.underlying24] at hv'
  obtain ⟨cs, e, _, ts, hts, _, hrow⟩ := hv'
  cases e
  rw [cells24] at hts
  cases hts
  obtain ⟨u, hu, hc⟩ := hrow 1 v1 rfl
  cases hu
  obtain ⟨A, len, cap, rfl⟩ : ∃ A len cap, v1 = .slice A len cap := by
    simp only [Cell.okWide, Try.underlying22] at hc
    cases v1 <;> simp_all [Cell.ok]
  exact ⟨N, A, len, cap, n, y1, rfl, hN, okWide_cell Try.underlying22 hc, h1⟩

theorem u32_elem {n : Nat} {cs : List Value} {y : DataW X × List MemPlace} (h : DataW.trod enc Try.prog W base spare held n 41 cs = some y) : ∃ a : Nat, [Value.int .u32 (a : Int)] = cs ∧ a < 4294967296 := by
  obtain ⟨z, rfl, _, hz⟩ := DataW.trod_int Try.underlying41 h
  simp only [Lit.wf, Bool.and_eq_true, decide_eq_true_eq, show IntKind.u32.min = 0 from rfl, show IntKind.u32.max = 4294967295 from rfl] at hz
  exact ⟨z.toNat, by rw [Int.toNat_of_nonneg (by omega)], by omega⟩
theorem flatMap_one {α : Type} (f : α → Value) (xs : List α) : (xs.flatMap fun a => [f a]) = xs.map f := by
  induction xs with
  | nil => rfl
  | cons a xs ih => simp [ih]
set_option maxRecDepth 100000 in
theorem open_edges {F : FM} {H : Heap} {nx : Nat} (hi : In W F H nx) {A : Option Addr} {len cap n : Nat} {y : DataW X × List MemPlace} (hok : Cell.ok Try.prog W .any b0 22 (.slice A len cap)) (h : DataW.trod enc Try.prog W base spare held n 22 [.slice A len cap] = some y) :
    ∃ (F' : FM) (H' : Heap) (nx' : Nat) (A' : Option Addr) (es : List Nat), In W F' H' nx' ∧ F.le F' ∧ VR F' (.slice A' es.length cap) (.slice A len cap) ∧ Small es ∧ Sl H' nx' A' (u32s es) ∧ Ext H nx H' nx' := by
  obtain ⟨F', H', nx', A', xs, h1, h2, h3, rfl, h5, h6, h7, _⟩ := hi.slice (f := fun a : Nat => [Value.int .u32 (a : Int)]) (Pr := fun a => a < 4294967296) (sz := 1) Try.underlying22 (by kernel_rfl) (fun _ => rfl) hok h (fun n cs y h => u32_elem h) (fun _ => rfl)
  rw [flatMap_one] at h6
  exact ⟨F', H', nx', A', xs, h1, h2, h3, h5, h6, h7⟩

set_option maxRecDepth 100000 in
theorem bag_elem {n : Nat} {cs : List Value} {y : DataW X × List MemPlace} (h : DataW.trod enc Try.prog W base spare held n 48 cs = some y) : ∃ a : Bag, bagC a = cs ∧ a.key < 4294967296 := by
  obtain ⟨y0, y1, y2, m, _, hl, h0, h1, h2⟩ := trod_struct3 Try.underlying48 h
  have hl3 : cs.length = 3 := hl.trans (by kernel_rfl)
  obtain ⟨c0, c1, c2, rfl⟩ : ∃ c0 c1 c2, cs = [c0, c1, c2] := by
    match cs, hl3 with
    | [a, b, c], _ => exact ⟨a, b, c, rfl⟩
  have e3 : Try.prog.cellsOf 3 = 1 := by kernel_rfl
  have e21 : Try.prog.cellsOf 41 = 1 := by kernel_rfl
  simp only [e3, e21] at h0 h1 h2
  obtain ⟨z0, g0, _, _⟩ := DataW.trod_int Try.underlying3 h0
  obtain ⟨z1, g1, _, w1⟩ := DataW.trod_int Try.underlying41 h1
  obtain ⟨z2, g2, _, _⟩ := DataW.trod_int Try.underlying3 h2
  simp at g0 g1 g2
  subst g0 g1 g2
  simp only [Lit.wf, Bool.and_eq_true, decide_eq_true_eq, show IntKind.u32.min = 0 from rfl, show IntKind.u32.max = 4294967295 from rfl] at w1
  exact ⟨⟨z0, z1.toNat, z2⟩, by simp only [bagC]; rw [Int.toNat_of_nonneg (by omega)], by simp only; omega⟩
set_option maxRecDepth 100000 in
theorem open_bags {F : FM} {H : Heap} {nx : Nat} (hi : In W F H nx) {A : Option Addr} {len cap n : Nat} {y : DataW X × List MemPlace} (hok : Cell.ok Try.prog W .any b0 25 (.slice A len cap)) (h : DataW.trod enc Try.prog W base spare held n 25 [.slice A len cap] = some y) :
    ∃ (F' : FM) (H' : Heap) (nx' : Nat) (A' : Option Addr) (bs : List Bag), In W F' H' nx' ∧ F.le F' ∧ VR F' (.slice A' bs.length cap) (.slice A len cap) ∧ KeyOK bs ∧ Sl H' nx' A' (bagsC bs) ∧ Ext H nx H' nx' := by
  obtain ⟨F', H', nx', A', xs, h1, h2, h3, rfl, h5, h6, h7, _⟩ := hi.slice (f := bagC) (Pr := fun a => a.key < 4294967296) (sz := 3) Try.underlying25 (by kernel_rfl) (fun _ => rfl) hok h (fun n cs y h => bag_elem h) (fun _ => rfl)
  exact ⟨F', H', nx', A', xs, h1, h2, h3, h5, h6, h7⟩
end

/-- The step from a claim on the abstract heap to the row's post-condition, for a law of three arguments. -/
theorem law_post {X : Type} {enc : TypeId × Value → X} {fn : Func} {s : ChangeSpec} {W W' : World} {args : Array Value} {ds gs : List (DataW X)} {before p : List MemPlace}
    (hW : DataW.Whole enc Try.prog fn.params.toList s.vars false W args.toList ds gs before) (hv : s.vars = []) (hres : (s.fn X (ds ++ gs)).results = [.lit (.bool true)]) (hvars : (s.fn X (ds ++ gs)).vars = [])
    (hargs : (s.fn X (ds ++ gs)).args = ds) (hrt : fn.resultTypes = #[4]) (hts : ∀ t ∈ fn.params.toList, Try.prog.readableRec t = true ∧ t < Try.prog.types.size) (hb : Below W.heap.size W W')
    (hA : DataW.TrodAll enc Try.prog W 0 (fun _ => true) true fn.params.toList args.toList ds p) (hp : ∀ x ∈ p, x ∈ before) :
    s.post enc Try.prog fn false true false false W args (.bool true) W' := by
  refine post_of_below (pa := p) (pv := []) hW hb (fun _ _ _ => ?_) ?_ ?_
  · rw [hres, hrt]
    exact trodAll_cons_mk (shut_bool Try.underlying4 _) trodAll_mk0
  · rw [hargs]
    exact trodAll_below laid hb _ _ _ _ hts hA fun x hx => hW.lt x (hp x hx)
  · rw [hv, hvars]; rfl
end Go.Proofs.Ytaieijjfabbfeaa

set_option linter.unusedSimpArgs false
set_option linter.unusedVariables false
set_option linter.unusedSectionVars false
namespace Go.Proofs.Ytaieijjfabbfeaa.eliminationFills
open Go.ChangeShapes Go.WideShapes Go.ChangeAt Go.RowKit Go.Joins Go.Clo

set_option maxRecDepth 100000 in
theorem open_turns {X : Type} {enc : TypeId × Value → X} {W : World} {b0 base : Nat} {spare : Nat → Bool} {held : Bool} {F : FM} {H : Heap} {nx : Nat} (hi : In W F H nx) {A : Option Addr} {len cap n : Nat} {y : DataW X × List MemPlace} (hok : Cell.ok Try.prog W .any b0 51 (.slice A len cap)) (h : DataW.trod enc Try.prog W base spare held n 51 [.slice A len cap] = some y) :
    ∃ (F' : FM) (H' : Heap) (nx' : Nat) (A' : Option Addr) (l : List Nat), In W F' H' nx' ∧ F.le F' ∧ VR F' (.slice A' l.length cap) (.slice A len cap) ∧ (∀ t ∈ l, t < 256) ∧ Sl H' nx' A' (u8s l) ∧ Ext H nx H' nx' := by
  obtain ⟨F', H', nx', A', xs, h1, h2, h3, rfl, h5, h6, h7, _⟩ := hi.slice (f := fun a : Nat => [Value.int .u8 (a : Int)]) (Pr := fun a => a < 256) (sz := 1) Try.underlying51 (by kernel_rfl) (fun _ => rfl) hok h (fun n cs y h => by
    obtain ⟨z, rfl, _, hz⟩ := DataW.trod_int Try.underlying5 h
    simp only [Lit.wf, Bool.and_eq_true, decide_eq_true_eq, show IntKind.u8.min = 0 from rfl, show IntKind.u8.max = 255 from rfl] at hz
    exact ⟨z.toNat, by rw [Int.toNat_of_nonneg (by omega)], by omega⟩) (fun _ => rfl)
  rw [flatMap_one] at h6
  exact ⟨F', H', nx', A', xs, h1, h2, h3, h5, h6, h7⟩

set_option maxRecDepth 100000 in
theorem lifted (os : Os) (started : os.Started) (H : Type) (enc : TypeId × Value → H) :
    ReturnsInHanded {} Try.checked os 6 .any (Rows.eliminationFillsSpec.pre6 enc Try.prog Try.f6 Rows.eliminationFillsRow.domain false) (Rows.eliminationFillsSpec.post enc Try.prog Try.f6 false true false false) := by
  refine returnsInHanded_of_change (C := Try.checked) own started (by kernel_rfl) Try.func6
    (ChangeSpec.witness6 (enc := enc) (C := Try.checked) false ⟨#[], #[.agg #[.int .i64 0, .slice none 0 0], .int .u8 0, .slice none 0 0], []⟩ 8 (by kernel_rfl) (by kernel_rfl) (by kernel_rfl) (by kernel_rfl)) ?_
  intro W base args ds gs before hval0 hW hcnd _
  have hval : ∀ (j : Nat) t v, Try.f6.params[j]? = some t → args[j]? = some v → Value.okWide Try.prog W .any base t v := hval0
  have hW' := hW
  obtain ⟨p, q, hA0, hV, rfl, hfz, hnd⟩ := hW
  have hA : DataW.TrodAll enc Try.prog W 0 (fun _ => true) true Try.f6.params.toList args.toList ds p := hA0
  have hAll := hA
  rw [Try.params6] at hA hval
  obtain ⟨v0, vs0, d0, ds0, p0, q0, hargs, rfl, rfl, h0, r0⟩ := trodAll_cons hA
  obtain ⟨v1, vs1, d1, ds1, p1, q1, rfl, rfl, rfl, h1, r1⟩ := trodAll_cons r0
  obtain ⟨v2, vs2, d2, ds2, p2, q2, rfl, rfl, rfl, h2, r2⟩ := trodAll_cons r1
  obtain ⟨rfl, rfl, rfl⟩ := trodAll_nil r2
  obtain rfl : args = #[v0, v1, v2] := by cases args; simp_all
  obtain ⟨rfl, rfl⟩ := trodVars_none hV
  obtain ⟨N, A, len, cap, n0, y0, rfl, _, hok0, ht0⟩ := graph_open (hval 0 24 v0 rfl rfl) h0
  obtain ⟨free, rfl, rfl, rfl, hz⟩ := open_int Try.underlying5 (hval 1 5 v1 rfl rfl) h1
  simp only [Lit.wf, Bool.and_eq_true, decide_eq_true_eq, show IntKind.u8.min = 0 from rfl, show IntKind.u8.max = 255 from rfl] at hz
  obtain ⟨fr, rfl⟩ := Int.eq_ofNat_of_zero_le hz.1
  obtain ⟨B, lenB, capB, rfl⟩ := okWide_slice Try.underlying51 (hval 2 51 v2 rfl rfl)
  obtain ⟨F1, H1, nx1, A', es, hi1, hle1, hr1, hsm, hS, hE1⟩ := open_edges (In.start W) hok0 ht0
  obtain ⟨fuel2, ht2⟩ := h2
  obtain ⟨F2, H2, nx2, B', bs, hi2, hle2, hr2, hb8, hB, hE2⟩ := open_turns hi1 (okWide_value Try.underlying51 (hval 2 51 _ rfl rfl)) ht2
  have hvl : VL F2 [gv N A' es.length cap, .int .u8 (fr : Int), .slice B' bs.length capB] [.agg #[.int .i64 N, .slice A len cap], .int .u8 (fr : Int), .slice B lenB capB] :=
    .cons (VR.agg' (.cons (.int _ _) (.cons (hr1.mono hle2) .nil))) (.cons (.int _ _) (.cons hr2 .nil))
  refine (calls_of_ans (law6 N fr A' es cap B' bs capB H2 nx2 (hS.ext hE2) hsm hB hb8 (by omega)) (fun _ _ _ h => h) hi2 hvl).mono fun e W' ⟨he, hb⟩ => ?_
  subst he
  refine ⟨_, rfl, law_post hW' rfl rfl rfl rfl (by kernel_rfl) ?_ hb hAll fun x hx => List.mem_append_left _ hx⟩
  rw [Try.params6]
  intro t ht
  simp only [List.mem_cons, List.not_mem_nil, or_false] at ht
  rcases ht with rfl | rfl | rfl <;> exact ⟨by kernel_rfl, of_decide_eq_true (by kernel_rfl)⟩

theorem over : Rows.eliminationFillsRow.holds Try.pinned (OpenSpec.ofChange Rows.eliminationFillsSpec) :=
  OpenClaim.holds_of_wide 6 Try.f6 rfl rfl rfl rfl rfl rfl rfl ⟨rfl, rfl, rfl, rfl, rfl⟩ rfl rfl rfl rfl rfl (by kernel_rfl) Try.func6 (by kernel_rfl)
    (of_decide_eq_true (by kernel_rfl)) (by unfold Func.isWrapper; first | (rw [if_pos (by decide +kernel)]; kernel_rfl) | (rw [if_neg (by decide +kernel)]; exact ⟨rfl, rfl⟩))
    (fun os started H enc _ => lifted os started H enc)

/-- THE STATEMENT -/
theorem proved : Rows.EliminationFillsSaid := over
end Go.Proofs.Ytaieijjfabbfeaa.eliminationFills
