/-
  THE STATEMENT ExplainRefusals: for every input the law returns true, and each argument reads behind the call as it did (what the row lists of Go's tables is tied to the program's text). No condition.
  A query as an argument, opened; a verdict.
-/
import Derived.Test.YthbdeaeghipliaaGreatDoorK3
import Derived.Test.YthbdeaeghipliaaGreatDoorK5
import Derived.Test.YthbdeaeghipliaaGreatDoorK6
import Derived.Test.YthbdeaeghipliaaGreatDoorRows
import Derived.Test.YthbdeaeghipliaaGreatDoorTie
import Derived.Test.YthbdeaeghipliaaGreatDoorCards
import Derived.WalkKit
import Derived.ProofKit
import Derived.OpenShut
import Derived.Lib.SmallJoins
import Derived.SizedLaws
import Derived.LaidMore
import Derived.Lay
import Derived.Stop.Joined
import Derived.SevenTiedAt
set_option linter.unusedSimpArgs false
set_option linter.unusedVariables false
set_option linter.unusedSectionVars false
namespace Go.Proofs.YthbdeaeghipliaaGreatDoor
open Go.Clo

section
variable {X : Type} {enc : TypeId × Value → X} {W : World}

abbrev opI64 := Opn.int (enc := enc) (w := W) Tryz.underlying3
abbrev opStr := Opn.string (enc := enc) (w := W) Tryz.underlying9
abbrev opBool := Opn.bool (enc := enc) (w := W) Tryz.underlying4
/-- A value: its kind, its number, its text. -/
theorem op_value : Opn enc Tryz.prog W 69 (fun x : Int × Int × ByteArray × Unit => [.int .i64 x.1, .int .i64 x.2.1, .string x.2.2.1]) (fun _ _ _ => True) :=
  Opn.map id (Opn.struct Tryz.underlying69 (by kernel_rfl) (OpnFs.cons 1 rfl (by kernel_rfl) kept_pure opI64 (OpnFs.cons 1 rfl (by kernel_rfl) kept_pure (Opn.int Tryz.underlying2) (OpnFs.cons 1 rfl (by kernel_rfl) kept_true opStr OpnFs.nil)))) (fun _ => rfl) (fun _ _ _ _ => trivial)
theorem op_term : Opn enc Tryz.prog W 76 termC (fun _ _ _ => True) :=
  Opn.map (fun x : ByteArray × (Int × Int × ByteArray × Unit) × Unit => ⟨x.1, x.2.1.1, x.2.1.2.1, x.2.1.2.2.1⟩) (Opn.struct Tryz.underlying76 (by kernel_rfl) (OpnFs.cons 1 rfl (by kernel_rfl) kept_true opStr (OpnFs.cons 3 rfl (by kernel_rfl) kept_true op_value OpnFs.nil))) (fun _ => rfl) (fun _ _ _ _ => trivial)
theorem op_cond : Opn enc Tryz.prog W 71 condC (fun _ _ _ => True) :=
  Opn.map (fun x : ByteArray × Int × (Int × Int × ByteArray × Unit) × Unit => ⟨x.1, x.2.1, x.2.2.1.1, x.2.2.1.2.1, x.2.2.1.2.2.1⟩) (Opn.struct Tryz.underlying71 (by kernel_rfl) (OpnFs.cons 1 rfl (by kernel_rfl) kept_true opStr (OpnFs.cons 1 rfl (by kernel_rfl) kept_pure opI64 (OpnFs.cons 3 rfl (by kernel_rfl) kept_true op_value OpnFs.nil)))) (fun _ => rfl) (fun _ _ _ _ => trivial)
theorem op_key : Opn enc Tryz.prog W 63 keyC (fun _ _ _ => True) :=
  Opn.map (fun x : ByteArray × Bool × Unit => ⟨x.1, x.2.1⟩) (Opn.struct Tryz.underlying63 (by kernel_rfl) (OpnFs.cons 1 rfl (by kernel_rfl) kept_true opStr (OpnFs.cons 1 rfl (by kernel_rfl) kept_true opBool OpnFs.nil))) (fun _ => rfl) (fun _ _ _ _ => trivial)
theorem op_atom : Opn enc Tryz.prog W 74 atomC (fun H nx a => AtomOK H nx a ∧ a.terms.length ≤ reachBytes) :=
  Opn.map (fun x : Bool × ByteArray × (Option Addr × Nat × List TermR) × Unit => ⟨x.1, x.2.1, x.2.2.1.1, x.2.2.1.2.1, x.2.2.1.2.2⟩)
    (Opn.struct Tryz.underlying74 (by kernel_rfl) (OpnFs.cons 1 rfl (by kernel_rfl) kept_true opBool (OpnFs.cons 1 rfl (by kernel_rfl) kept_true opStr (OpnFs.cons 1 rfl (by kernel_rfl) (kept_slice kept_true)
      (Opn.slice Tryz.underlying72 (by kernel_rfl) (by omega) (of_decide_eq_true (by kernel_rfl)) termC_len kept_true op_term) OpnFs.nil)))) (fun _ => rfl) (fun _ _ _ h => ⟨h.2.2.1.1, h.2.2.1.2.2⟩)
theorem kept_atom : Kept (fun H nx a => AtomOK H nx a ∧ a.terms.length ≤ reachBytes) := fun _ _ _ _ _ h e => ⟨h.1.ext e, h.2⟩
/-- A rule, and that its lists are short. -/
structure RuleOL (H : Heap) (nx : Nat) (r : RuleR) : Prop where
  ok : RuleOK H nx r
  atoms : r.atoms.length ≤ reachBytes
  conds : r.conds.length ≤ reachBytes
  terms : ∀ a ∈ r.atoms, a.terms.length ≤ reachBytes
theorem kept_rule : Kept RuleOL := fun _ _ _ _ _ h e => ⟨h.ok.ext e, h.atoms, h.conds, h.terms⟩
theorem op_rule : Opn enc Tryz.prog W 67 ruleC RuleOL :=
  Opn.map (fun x : (Option Addr × Nat × List AtomR) × (Option Addr × Nat × List CondR) × Unit => ⟨x.1.1, x.1.2.1, x.1.2.2, x.2.1.1, x.2.1.2.1, x.2.1.2.2⟩)
    (Opn.struct Tryz.underlying67 (by kernel_rfl) (OpnFs.cons 1 rfl (by kernel_rfl) (kept_slice kept_atom)
      (Opn.slice Tryz.underlying64 (by kernel_rfl) (by omega) (of_decide_eq_true (by kernel_rfl)) atomC_len kept_atom op_atom) (OpnFs.cons 1 rfl (by kernel_rfl) (kept_slice kept_true)
      (Opn.slice Tryz.underlying65 (by kernel_rfl) (by omega) (of_decide_eq_true (by kernel_rfl)) condC_len kept_true op_cond) OpnFs.nil))) (fun _ => rfl)
    (fun _ _ _ h => ⟨⟨h.1.1, fun a ha => (h.1.2.1 a ha).1, h.2.1.1⟩, h.1.2.2, h.2.1.2.2, fun a ha => (h.1.2.1 a ha).2⟩)

theorem cellsQ : Tryz.prog.cellTypes Tryz.prog.depth 26 = some [22, 3, 9, 23, 24] := by kernel_rfl
theorem okWide_cellQ {P : Program} {r : Reach} {b0 : Nat} {t e : TypeId} {v : Value} (ht : P.underlying t = some (.slice e)) (h : Cell.okWide P W r b0 t v) : ∃ A len cap, v = .slice A len cap ∧ Cell.ok P W r b0 t (.slice A len cap) := by
  simp only [Cell.okWide, ht] at h
  have h' := h
  cases v with
  | slice A len cap => exact ⟨A, len, cap, rfl, h⟩
  | _ => simp [Cell.ok, ht] at h
set_option maxRecDepth 100000 in
theorem query_open {F : FM} {H : Heap} {nx b0 : Nat} (hi : In W F H nx) {v : Value} {d : DataW X} {p : List MemPlace} (hv : Value.okWide Tryz.prog W .any b0 26 v) (h : DataW.Trod enc Tryz.prog W 0 (fun _ => true) true 26 v d p)
    (hw : ∀ k ∈ d.weights Tryz.prog 26, k ≤ reachBytes) :
    ∃ (F' : FM) (H' : Heap) (nx' : Nat) (q : QueryR), In W F' H' nx' ∧ F.le F' ∧ Ext H nx H' nx' ∧ VR F' (.agg ⟨queryC q⟩) v ∧ QueryOK H' nx' q ∧ QueryL q := by
  have hR : reachBytes = 140737488351232 := rfl
  simp only [Value.okWide, Tryz.underlying26] at hv
  obtain ⟨cs, rfl, hsz, ts, hts, _, hrow⟩ := hv
  rw [cellsQ] at hts
  cases hts
  rw [show Tryz.prog.cellsOf 26 = 5 by kernel_rfl] at hsz
  obtain ⟨fuel, hdt⟩ := h
  obtain ⟨xs, m, _, hdx, hl, hxl, hel⟩ := DataW.trod_struct Tryz.underlying26 hdt
  obtain ⟨l⟩ := cs
  match l, hsz with
  | [v0, v1, v2, v3, v4], _ =>
  match xs, hxl with
  | [x0, x1, x2, x3, x4], _ =>
  have e0 := hel 0 _ rfl
  have e1 := hel 1 _ rfl
  have e2 := hel 2 _ rfl
  have e3 := hel 3 _ rfl
  have e4 := hel 4 _ rfl
  simp only [Prod.mk.injEq] at hdx
  obtain ⟨hdx, _⟩ := hdx
  subst hdx
  have hw' : ∀ k ∈ DataW.weightsEach Tryz.prog [22, 3, 9, 23, 24] [x0.1, x1.1, x2.1, x3.1, x4.1], k ≤ reachBytes := fun k hk => hw k (by rw [DataW.weights, Tryz.underlying26]; exact hk)
  have g0 : DataW.trod enc Tryz.prog W 0 (fun _ => true) true m 22 [v0] = some x0 := e0
  have g1 : DataW.trod enc Tryz.prog W 0 (fun _ => true) true m 3 [v1] = some x1 := e1
  have g2 : DataW.trod enc Tryz.prog W 0 (fun _ => true) true m 9 [v2] = some x2 := e2
  have g3 : DataW.trod enc Tryz.prog W 0 (fun _ => true) true m 23 [v3] = some x3 := e3
  have g4 : DataW.trod enc Tryz.prog W 0 (fun _ => true) true m 24 [v4] = some x4 := e4
  clear hel e0 e1 e2 e3 e4
  obtain ⟨u0, hu0, hc0⟩ := hrow 0 v0 rfl
  cases hu0
  obtain ⟨u4, hu4, hc4⟩ := hrow 4 v4 rfl
  cases hu4
  obtain ⟨A0, n0, c0, rfl, ok0⟩ := okWide_cellQ Tryz.underlying22 hc0
  obtain ⟨A4, n4, c4, rfl, ok4⟩ := okWide_cellQ Tryz.underlying24 hc4
  obtain ⟨F1, H1, nx1, HA, hd, i1, l1, E1, r1, hl1, hcap, hb0, hS, _, hH⟩ := In.sliceR (f := fun s : ByteArray => [Value.string s]) (sz := 1) Tryz.underlying22 (by kernel_rfl) (of_decide_eq_true (by kernel_rfl)) (fun _ => rfl) kept_true (Opn.string Tryz.underlying9) hi ok0 g0 (fun k hk => hw' k (DataW.weights_mem_each (j := 0) rfl rfl k hk))
  obtain ⟨ag, hag, _, _⟩ := DataW.trod_int Tryz.underlying3 g1
  obtain ⟨av, hav, _, _⟩ := DataW.trod_string Tryz.underlying9 g2
  simp only [List.cons.injEq, and_true] at hag hav
  subst hag; subst hav
  obtain ⟨F2, H2, nx2, ⟨RA, rc, rules⟩, i2, l2, E2, r2, hS2, hp2, hb2⟩ := Opn.slice Tryz.underlying23 (by kernel_rfl) (by omega) (of_decide_eq_true (by kernel_rfl)) ruleC_len kept_rule op_rule F1 H1 nx1 m _ _ i1 g3 (fun k hk => hw' k (DataW.weights_mem_each (j := 3) rfl rfl k hk))
  obtain ⟨F3, H3, nx3, OA, ord, i3, l3, E3, r3, hl3, _, hb3, hS3, _, hH3⟩ := In.sliceR Tryz.underlying24 (by kernel_rfl) (of_decide_eq_true (by kernel_rfl)) keyC_len kept_true op_key i2 ok4 g4 (fun k hk => hw' k (DataW.weights_mem_each (j := 4) rfl rfl k hk))
  have hE13 := E2.trans E3
  refine ⟨F3, H3, nx3, ⟨HA, c0, hd, ag, av, RA, rc, rules, OA, c4, ord⟩, i3, fun _ _ h => l3 _ _ (l2 _ _ (l1 _ _ h)), E1.trans hE13, ?_, ?_, ?_⟩
  · refine VR.agg' (.cons ((r1.mono l2).mono l3) (.cons (.int _ _) (.cons (.string _) ?_)))
    have r2' := VL.mono l3 r2
    cases r2' with
    | cons a b => exact .cons a (.cons r3 .nil)
  · have e : strs hd = hd.flatMap fun s => [Value.string s] := by
      unfold strs
      clear hl1 hb0 hS hH r1
      induction hd with
      | nil => rfl
      | cons a l ih => simp [ih]
    exact { head := by
              show Sl H3 nx3 HA (strs hd)
              rw [e]; exact hS.ext hE13
            headH := by
              rcases hH with ⟨h, _⟩ | ⟨b, h, hb, hg⟩
              · exact .inl h
              · exact .inr ⟨b, 0, _, h, Nat.lt_of_lt_of_le hb hE13.le, (hE13.get b hb).trans hg⟩
            hcap := by show hd.length ≤ c0; omega
            hnil := fun h => by
              rcases hH with ⟨_, h0⟩ | ⟨b, h0, _⟩
              · exact h0
              · have h : HA = none := h
                rw [h] at h0; cases h0
            rules := hS2.ext E3
            rule := fun r hr => (hp2 r hr).ok.ext E3
            order := hS3
            orderH := by
              rcases hH3 with ⟨h, _⟩ | ⟨b, h, hb, hg⟩
              · exact .inl h
              · exact .inr ⟨b, 0, _, h, hb, by rw [rowOf, hg]; rfl⟩ }
  · exact { head := by show hd.length < _; omega
            order := by show ord.length < _; omega
            rules := by show rules.length < _; have : rules.length ≤ reachBytes := hb2; omega
            atoms := fun r hr => by have := (hp2 r hr).atoms; omega
            conds := fun r hr => by have := (hp2 r hr).conds; omega
            terms := fun r hr a ha => by have := (hp2 r hr).terms a ha; omega }
end
end Go.Proofs.YthbdeaeghipliaaGreatDoor

set_option linter.unusedSimpArgs false
set_option linter.unusedVariables false
set_option linter.unusedSectionVars false
namespace Go.Proofs.YthbdeaeghipliaaGreatDoor
open Go.ChangeShapes Go.WideShapes Go.ChangeAt Go.RowKit Go.Joins Go.Clo

theorem own : ownKnob Tryz.prog.godebug = none := by kernel_rfl
theorem laidOut : laidOutB Tryz.prog = true := by kernel_rfl
def laidR : List (String × DataW Unit) := Rows.explainRefusalsRow.laid

section
variable {X : Type} {enc : TypeId × Value → X} {W : World}
theorem flatMap_one {α : Type} (f : α → Value) (xs : List α) : (xs.flatMap fun a => [f a]) = xs.map f := by
  induction xs with
  | nil => rfl
  | cons a xs ih => simp [ih]
/-- The lists of a verdict. -/
theorem op_ints : Opn enc Tryz.prog W 28 (fun x : Option Addr × Nat × List Int => [.slice x.1 x.2.2.length x.2.1]) (fun H nx x => Sl H nx x.1 (i64s x.2.2) ∧ x.2.2.length ≤ reachBytes) :=
  Opn.map id (Opn.slice (f := fun n : Int => [Value.int .i64 n]) Tryz.underlying28 (by kernel_rfl) (sz := 1) (by omega) (of_decide_eq_true (by kernel_rfl)) (fun _ => rfl) kept_pure (Opn.int Tryz.underlying3)) (fun _ => rfl)
    (fun _ _ a h => ⟨by have := h.1; rw [flatMap_one] at this; exact this, h.2.2⟩)
theorem kept_ints : Kept (fun H nx (x : Option Addr × Nat × List Int) => Sl H nx x.1 (i64s x.2.2) ∧ x.2.2.length ≤ reachBytes) := fun _ _ _ _ _ h e => ⟨h.1.ext e, h.2⟩
theorem op_verdict : Opn enc Tryz.prog W 30 (fun x : Int × (Option Addr × Nat × List Int) × (Option Addr × Nat × List Int) => [.int .i64 x.1, .slice x.2.1.1 x.2.1.2.2.length x.2.1.2.1, .slice x.2.2.1 x.2.2.2.2.length x.2.2.2.1])
    (fun H nx x => (Sl H nx x.2.1.1 (i64s x.2.1.2.2) ∧ x.2.1.2.2.length ≤ reachBytes) ∧ Sl H nx x.2.2.1 (i64s x.2.2.2.2) ∧ x.2.2.2.2.length ≤ reachBytes) :=
  Opn.map (fun x : Int × (Option Addr × Nat × List Int) × (Option Addr × Nat × List Int) × Unit => (x.1, x.2.1, x.2.2.1)) (Opn.struct Tryz.underlying30 (by kernel_rfl) (OpnFs.cons 1 rfl (by kernel_rfl) kept_pure (Opn.int Tryz.underlying3)
    (OpnFs.cons 1 rfl (by kernel_rfl) kept_ints op_ints (OpnFs.cons 1 rfl (by kernel_rfl) kept_ints op_ints OpnFs.nil)))) (fun _ => rfl) (fun _ _ _ h => ⟨h.2.1, h.2.2.1⟩)
theorem kept_verdict : Kept (fun H nx (x : Int × (Option Addr × Nat × List Int) × (Option Addr × Nat × List Int)) => (Sl H nx x.2.1.1 (i64s x.2.1.2.2) ∧ x.2.1.2.2.length ≤ reachBytes) ∧ Sl H nx x.2.2.1 (i64s x.2.2.2.2) ∧ x.2.2.2.2.length ≤ reachBytes) :=
  fun _ _ _ _ _ h e => ⟨⟨h.1.1.ext e, h.1.2⟩, h.2.1.ext e, h.2.2⟩
theorem op_refusal : Opn enc Tryz.prog W 32 (fun x : Int × Int × (Option Addr × Nat × List Int) × (Option Addr × Nat × List Int) => [.int .u32 x.1, .int .i64 x.2.1, .slice x.2.2.1.1 x.2.2.1.2.2.length x.2.2.1.2.1, .slice x.2.2.2.1 x.2.2.2.2.2.length x.2.2.2.2.1])
    (fun H nx x => (Lit.int .u32 x.1).wf = true ∧ (Sl H nx x.2.2.1.1 (i64s x.2.2.1.2.2) ∧ x.2.2.1.2.2.length ≤ reachBytes) ∧ Sl H nx x.2.2.2.1 (i64s x.2.2.2.2.2) ∧ x.2.2.2.2.2.length ≤ reachBytes) :=
  Opn.map (fun x : Int × (Int × (Option Addr × Nat × List Int) × (Option Addr × Nat × List Int)) × Unit => (x.1, x.2.1)) (Opn.struct Tryz.underlying32 (by kernel_rfl) (OpnFs.cons 1 rfl (by kernel_rfl) kept_pure (Opn.int Tryz.underlying27)
    (OpnFs.cons 3 rfl (by kernel_rfl) kept_verdict op_verdict OpnFs.nil))) (fun _ => rfl) (fun _ _ _ h => ⟨h.1, h.2.1⟩)
end

/-- The step from a claim on the abstract heap to the row's post-condition. -/
theorem law_post {X : Type} {enc : TypeId × Value → X} {fn : Func} {s : ChangeSpec} {W W' : World} {args : Array Value} {ds gs : List (DataW X)} {before p : List MemPlace}
    (hW : DataW.Whole enc Tryz.prog fn.params.toList s.vars false W args.toList ds gs before) (hv : s.vars = []) (hres : (s.fn X (ds ++ gs)).results = [.lit (.bool true)]) (hvars : (s.fn X (ds ++ gs)).vars = [])
    (hargs : (s.fn X (ds ++ gs)).args = ds) (hrt : fn.resultTypes = #[4]) (hts : ∀ t ∈ fn.params.toList, Tryz.prog.readableRec t = true ∧ t < Tryz.prog.types.size) (hb : Below W.heap.size W W')
    (hA : DataW.TrodAll enc Tryz.prog W 0 (fun _ => true) true fn.params.toList args.toList ds p) (hp : ∀ x ∈ p, x ∈ before) :
    s.post enc Tryz.prog fn false true false false W args (.bool true) W' := by
  refine post_of_below (pa := p) (pv := []) hW hb (fun _ _ _ => ?_) ?_ ?_
  · rw [hres, hrt]
    exact trodAll_cons_mk (shut_bool Tryz.underlying4 _) trodAll_mk0
  · rw [hargs]
    exact trodAll_below laidOut hb _ _ _ _ hts hA fun x hx => hW.lt x (hp x hx)
  · rw [hv, hvars]; rfl
theorem shaped (os : Os) : (World.laidAll Tryz.prog os laidR).Shaped Tryz.prog := World.shaped_of_ZipB (by kernel_rfl) (by kernel_rfl)
theorem met (os : Os) (args : Array Value) : laidMetH Tryz.prog laidR ((World.laidAll Tryz.prog os laidR).forCall (fun _ _ => 0) ⟨#[], args, []⟩).memory := by
  rw [MakeChecks.laidMetH_plain _ _ _ (by kernel_rfl)]; exact laidMet_laidAll _ (by kernel_rfl) (by kernel_rfl)

namespace explainRefusals
set_option maxRecDepth 100000 in
theorem lifted (os : Os) (started : os.Started) (H : Type) (enc : TypeId × Value → H) :
    ReturnsInHanded {} Tryz.checked os 3 .any (fun w args => (Rows.explainRefusalsSpec.pre enc Tryz.prog Tryz.f3 Rows.explainRefusalsRow.domain false w args ∧ laidMetH Tryz.prog laidR w) ∧ sizedMet enc Tryz.prog Tryz.f3 (OpenSpec.ofChange Rows.explainRefusalsSpec) false w args)
      (Rows.explainRefusalsSpec.post enc Tryz.prog Tryz.f3 false true false false) := by
  refine returnsInHanded_of_change_and (C := Tryz.checked) (X := fun w _ => laidMetH Tryz.prog laidR w) (fun _ _ _ hh h => h.of_heap hh) own started (by kernel_rfl) Tryz.func3
    (ChangeSpec.witness_shaped (enc := enc) (C := Tryz.checked) (os := os) (X := fun w _ => laidMetH Tryz.prog laidR w) false (World.laidAll Tryz.prog os laidR) #[.agg #[.slice none 0 0, .int .i64 0, .string ⟨#[]⟩, .slice none 0 0, .slice none 0 0], .agg #[.int .u32 0, .int .i64 0, .slice none 0 0, .slice none 0 0]] 8 (World.laidAll_os _ _ _)
      (shaped os) (by kernel_rfl) (by kernel_rfl) (by kernel_rfl) (met os _)) ?_
  intro W base args ds gs before hval0 hW _ hwt0 hlaid _
  have hval : ∀ (j : Nat) t v, Tryz.f3.params[j]? = some t → args[j]? = some v → Value.okWide Tryz.prog W .any base t v := hval0
  have hW' := hW
  obtain ⟨p, q, hA0, hV, rfl, _, _⟩ := hW
  have hA : DataW.TrodAll enc Tryz.prog W 0 (fun _ => true) true Tryz.f3.params.toList args.toList ds p := hA0
  have hAll := hA
  rw [Tryz.params3] at hA hval
  obtain ⟨v0, vs0, d0, ds0, p0, q0, hargs, rfl, rfl, h0, r0⟩ := trodAll_cons hA
  obtain ⟨v1, vs1, d1, ds1, p1, q1, rfl, rfl, rfl, h1, r1⟩ := trodAll_cons r0
  obtain ⟨rfl, rfl, rfl⟩ := trodAll_nil r1
  obtain rfl : args = #[v0, v1] := by cases args; simp_all
  obtain ⟨rfl, rfl⟩ := trodVars_none hV
  have hwt : (DataW.weightsEach Tryz.prog [26, 32] [d0, d1]).all (· ≤ reachBytes) = true := by
    rw [Tryz.params3] at hwt0
    exact hwt0
  have hwt1 := List.all_eq_true.1 hwt
  have hR : reachBytes = 140737488351232 := rfl
  obtain ⟨F1, H1, nx1, Q, hi1, hle1, hE1, hr1, hQ, hL⟩ := query_open (In.start W (fun x hx => by cases hx)) (hval 0 26 v0 rfl rfl) h0 fun k hk => by simpa using hwt1 k (DataW.weights_mem_each (j := 0) rfl rfl k hk)
  obtain ⟨F2, H2, nx2, ⟨mk, kind, ⟨P, pc, pl⟩, ⟨R, wc, wl⟩⟩, hi2, hle2, hE2, hr2, hm, ⟨hP, hPl⟩, hR', hRl⟩ := Opn.agg Tryz.underlying32 op_refusal hi1 (hval 1 32 v1 rfl rfl) h1 fun k hk => by simpa using hwt1 k (DataW.weights_mem_each (j := 1) rfl rfl k hk)
  have hm' := bounds_u32 hm
  obtain ⟨m, rfl⟩ : ∃ m : Nat, mk = (m : Int) := ⟨mk.toNat, by rw [Int.toNat_of_nonneg (by exact hm'.1)]⟩
  have hPl' : pl.length ≤ reachBytes := hPl
  have hRl' : wl.length ≤ reachBytes := hRl
  have hvl : VL F2 [.agg ⟨queryC Q⟩, .agg ⟨verdC m kind P R pl.length pc wl.length wc⟩] [v0, v1] := .cons (hr1.mono hle2) (.cons hr2 .nil)
  refine (calls_of_ans (law3 Q m kind P R pl wl pc wc H2 nx2 (hQ.ext hE2) hL (by omega) hP hR' (by omega) (by omega)) (fun _ _ _ h => h.1.symm) hi2 hvl).mono fun e W' ⟨he, hb⟩ => ?_
  subst he
  refine ⟨_, rfl, law_post hW' rfl rfl rfl rfl (by kernel_rfl) ?_ hb hAll fun x hx => List.mem_append_left _ hx⟩
  rw [Tryz.params3]
  intro t ht
  simp only [List.mem_cons, List.not_mem_nil, or_false] at ht
  rcases ht with rfl | rfl <;> exact ⟨by kernel_rfl, of_decide_eq_true (by kernel_rfl)⟩

theorem over : Rows.explainRefusalsRow.holds Tryz.pinned (OpenSpec.ofChange Rows.explainRefusalsSpec) :=
  OpenClaim.holds_of_wide 3 Tryz.f3 rfl rfl rfl rfl rfl rfl rfl ⟨rfl, rfl, rfl, rfl, rfl⟩ rfl rfl rfl rfl rfl (by kernel_rfl) Tryz.func3 (by kernel_rfl)
    (of_decide_eq_true (by kernel_rfl)) (by unfold Func.isWrapper; first | (rw [if_pos (by decide +kernel)]; kernel_rfl) | (rw [if_neg (by decide +kernel)]; exact ⟨rfl, rfl⟩))
    (fun os started H enc _ => lifted os started H enc)

/-- THE STATEMENT -/
theorem proved : Rows.ExplainRefusalsCardSaid :=
  Claim7.holds_tied_plain_at .later [] [.data, .data, .data, .data, .pinned] true (true, "9ab459e8f5ee4e6c054310dc6aca4bd7871d2ca6b66256096dc8718e47b619e6") false over (fun _ h => by cases h) (by kernel_rfl) (fun _ h => by cases h) explainRefusals_row_tie rfl ⟨rfl, rfl⟩ (by kernel_rfl) rfl
    (fun f fn hf hfn => by
      obtain rfl : f = 3 := Option.some.inj ((show Tryz.prog.funcNamed Rows.explainRefusalsRow.func = some 3 by kernel_rfl).symm.trans hf) |>.symm
      obtain rfl : fn = Tryz.f3 := (Option.some.inj (Tryz.func3.symm.trans hfn)).symm
      exact ⟨by kernel_rfl, fun j t ht => by
        rw [Tryz.params3] at ht
        have hm : t ∈ [26, 32] := by simpa using Array.mem_of_getElem? ht
        have hall : ([26, 32].all fun u => !Tryz.prog.wantsStandIn u) = true := by kernel_rfl
        exact (show Tryz.prog.wantsStandIn t = false by simpa using List.all_eq_true.1 hall t hm)⟩)
    (by kernel_rfl)
end explainRefusals
end Go.Proofs.YthbdeaeghipliaaGreatDoor
