/-
  The executor as a claim: closed runs as claims; the way in, from arguments that stand in the world.
  The executor as a claim: slices that may be empty, their rows; arrays in memory.
  The executor as a claim: contracts of the library, proved in the world itself, as claims on the abstract heap.
  Lemmas on claims that chapter 33 uses: append to a literal, the nil test, min, products.
  Sets of strings: maps from strings to bool all of whose values are true.
  Queries on the abstract heap: terms, atoms, conditions, rules, sort keys.
  What the generated texts of this seat lean on.
  MADE BY PROGRAM (wip/gen/gen.py): functions 129 107 78 93 64 63 92 62 6 23 35 50 66 67 as marked code, and their claims written out.
  slices.Values and slices.AppendSeq over strings, at this program: AppendSeq(nil, Values(s)) hands back a new slice that holds the strings of s.
  DERIVED: THE SHELF's CONTRACTS AT THIS DUMP, IN PLAIN WORDS (tools/lay-plain.mjs out of 'TryzMini.lean', which tools/lay-shelf.mjs wrote): THE SAME DECLARATIONS UNDER THE SAME NAMES: 'import', 'namespace', 'open', 'def', 'theorem' AND NOTHING ELSE: no command of the shelf's: FOR A HAND-IN. Each laying: the table of numbers ('.._ren') and one theorem, a field a fact of the dump's own or the kernel's comparison; each contract: ONE APPLICATION.
  slices.Sorted(slices.Values(s)) over strings, at this program: a new slice that holds the strings of s, sorted.
  The library's functions that chapter 56 calls, as claims on the abstract heap: strings.Join, strings.Index and strings.Count at one byte, slices.Sorted over slices.Values.
  Contracts: names of variables (the reference's and the program's).
  Contracts: valid names, with the number of a rule or without; the first name that is not valid.
  MADE BY PROGRAM (wip/gen/gen.py): functions 34 36 20 49 32 21 14 40 16 38 39 68 37 as marked code, and their claims written out.
  Contracts: a valid name, with the number of a rule or without; the names of a list.
  Contracts: slices.Compact over sorted strings; the error code of a list of names, as the program computes it.
-/
import Derived.Test.YthbdeaeghipliaaGreatDoorK2
import Derived.Carry
import Derived.ChangeArms
import Derived.DataReads
import Derived.Below
import Derived.Laws.AppendOwn
import Derived.MapKept
import Derived.Test.YthbdeaeghipliaaGreatDoorProg
import Derived.KernelRfl
import Derived.RangeFuncBox
import Derived.RangeFuncLeaves
import Derived.Shelf.Abstract
import Derived.WalkKit
import Derived.OwnWalkIn
import Derived.TacticsInMore
import Derived.LoopNIn
import Derived.LoopIn
import Derived.Maps.AppendAt
import Derived.Shelf.Strings.Builder1
import Derived.Shelf.Strings.Builder2
import Derived.Shelf.Strings.OnBuilder
import Derived.Shelf.Strings.Search1
import Derived.Shelf.Strings.Search2
import Derived.Shelf.Strings.Search3
import Derived.Shelf.Strings.Count
import Derived.Shelf.SortM.Plain
import Derived.Shelf.SortM.SortNone
import Derived.Shelf.Spec.SlicesGrow
import Derived.Ground.NamesProg
import Derived.Ground.Names8Prog
import Derived.Ground.SlgmProg
import Derived.Sort.OwnSorted
import Derived.RangeFuncBound
set_option linter.unusedSimpArgs false
set_option linter.unusedVariables false
set_option linter.unusedSectionVars false
namespace Go.Clo

/-- A closed run is a claim. -/
theorem ans_of_run {P : Program} {n : Nat} {orc : Orc} (hm : P.follows .mixedOrders = true) (hNG : NamesOK P) (ho : OrcOK P orc) {f : FuncId} {args : List Value} {v : Value} (hr : runA P orc n f args = some v) (ha : args.all flat1 = true) (hv : flat v = true) (H : Heap) (nx : Nat) :
    Ans P f args H nx fun v' H' nx' => v = v' ∧ H = H' ∧ nx = nx' := by
  have hE : Enters P f := by
    unfold runA at hr
    rcases callN_sound (β := Option Value) hm hNG ho n f args .leaf 0 none (fun v _ _ => some v) with h | ⟨v', H', nx', h, hcs⟩
    · rw [h] at hr; cases hr
    · exact hcs.1
  refine ⟨v, H, nx, ⟨hE, fun F args' w hh hl => ?_⟩, rfl, rfl, rfl⟩
  have e := flatL_eq hl ha
  subst e
  refine (run_calls hm hNG ho hr ha hv w hh.gl.1).mono fun e w' ⟨he, hb⟩ => ⟨v, F, he, flat_refl F v hv, ?_⟩
  exact { le := Nat.le_refl _, ext := fun _ _ => rfl, os := hb.os, tape := hb.tape, output := hb.output, size := hb.size, frame := fun b h _ => hb.block b h, own := fun _ h => .inl h, keep := fun _ _ h => h, rom := fun i b h _ => ⟨hh.low h, h⟩, hr := ⟨fun i b hi hg => let ⟨t, h1, h2⟩ := hh.blk i b hi hg; ⟨t, h1, h2.mono (fun _ _ h => h) (hb.block _ h2.lt)⟩, hh.inj, hh.fresh, hh.top, hh.gl.step (fun b h _ => hb.block b h) (fun _ h => .inl h)⟩ }

/-- An abstract heap of arguments: all of it is only read. -/
structure In (w : World) (F : FM) (H : Heap) (nx : Nat) : Prop where
  hr : HR F H nx w
  rom : ∀ i b, getH H i = some b → b.isRom = true
theorem In.start (w : World) (hgw : GlW w) : In w (fun _ => none) .leaf 0 :=
  ⟨⟨fun i b hi => by omega, fun i j bi bj ti tj hi => by omega, fun _ _ => rfl, fun _ _ => rfl, ⟨hgw, fun x hx ⟨i, _, _, hi, _⟩ => by omega⟩⟩, fun i b h => by rw [getH_leaf] at h; cases h⟩

theorem calls_of_ans {P : Program} {f : FuncId} {args args' : List Value} {H : Heap} {nx : Nat} {Q : Value → Heap → Nat → Prop} {w : World} {F : FM} (h : Ans P f args H nx Q) (hQ : ∀ v H' nx', Q v H' nx' → v = .bool true) (hi : In w F H nx) (hl : VL F args args') :
    Calls P f args'.toArray w fun e w' => e = .returned (.bool true) ∧ RowKit.Below w.heap.size w w' := by
  obtain ⟨v, H', nx', hcs, hq⟩ := h
  have := hQ _ _ _ hq
  subst this
  refine (hcs.2 F args' w hi.hr hl).mono fun e w' ⟨v', F', he, hvr, hst⟩ => ?_
  cases hvr
  refine ⟨he, hst.os, hst.tape, hst.output, hst.size, fun b hb => hst.frame b hb ?_⟩
  rintro ⟨i, k, t, _, hg, hk, _⟩
  rw [hi.rom i k hg] at hk; cases hk

def putF (F : FM) (i : Nat) (t : Tgt) : FM := fun j => if j = i then some t else F j
theorem putF_le {w : World} {F : FM} {H : Heap} {nx : Nat} (h : In w F H nx) (t : Tgt) : F.le (putF F nx t) := by
  intro i u hu
  have : i ≠ nx := by
    intro e; subst e
    rw [h.hr.fresh i (Nat.le_refl _)] at hu; cases hu
  simp [putF, this, hu]

/-- A name for an address. -/
theorem In.name {w : World} {F : FM} {H : Heap} {nx : Nat} (h : In w F H nx) (t : Tgt) : In w (putF F nx t) H (nx + 1) := by
  have hle := putF_le h t
  refine ⟨⟨fun i b hi hg => ?_, fun i j bi bj ti tj hi hj hgi hgj _ _ _ => .inr ⟨h.rom _ _ hgi, h.rom _ _ hgj⟩, fun i hi => ?_, fun i hi => h.hr.top i (by omega), ⟨h.hr.gl.1, fun x hx ⟨i, k, u, _, hg, hk, _⟩ => by rw [h.rom i k hg] at hk; cases hk⟩⟩, h.rom⟩
  · obtain ⟨u, h1, h2⟩ := h.hr.blk i b (h.hr.low hg) hg
    exact ⟨u, hle _ _ h1, h2.mono hle rfl⟩
  · have : i ≠ nx := by omega
    simp [putF, this]; exact h.hr.fresh i (by omega)
/-- A row that is only read. -/
theorem In.row {w : World} {F : FM} {H : Heap} {nx : Nat} (h : In w F H nx) {a : Nat} {off : Nat} {c' : Array Value} {e : TypeId} {m : Nat × Nat} {c : List Value} (hb : w.heap[a]? = some (.cells c' e m)) (hle : off + c.length ≤ c'.size)
    (hv : VL F c ((c'.toList.drop off).take c.length)) : In w (putF F nx ⟨a, off, c.length, 0, c'.size⟩) (hs H nx (some (.rom c))) (nx + 1) := by
  have h1 := h.name ⟨a, off, c.length, 0, c'.size⟩
  have hle2 := putF_le h ⟨a, off, c.length, 0, c'.size⟩
  have hrom : ∀ i b, getH (hs H nx (some (.rom c))) i = some b → b.isRom = true := by
    intro i b hg
    rw [getH_hs] at hg
    split at hg
    · cases hg; rfl
    · exact h.rom i b hg
  refine ⟨⟨fun i b hi hg => ?_, fun i j bi bj ti tj hi hj hgi hgj _ _ _ => .inr ⟨hrom _ _ hgi, hrom _ _ hgj⟩, h1.hr.fresh, fun i hi => ?_, ⟨h.hr.gl.1, fun x hx ⟨i, k, u, _, hg, hk, _⟩ => by rw [hrom i k hg] at hk; cases hk⟩⟩, hrom⟩
  · rw [getH_hs] at hg
    split at hg
    · rename_i hi2
      subst hi2
      cases hg
      refine ⟨_, by simp [putF]; rfl, ?_⟩
      exact ⟨c', e, m, hb, rfl, rfl, rfl, hle, VL.mono hle2 hv⟩
    · exact h1.hr.blk i b hi hg
  · rw [getH_hs, if_neg (by omega)]; exact h.hr.top i (by omega)

theorem exists_list {α : Type} {p : Nat → α → Prop} : ∀ {n : Nat}, (∀ i, i < n → ∃ a, p i a) → ∃ xs : List α, xs.length = n ∧ ∀ i a, xs[i]? = some a → p i a
  | 0, _ => ⟨[], rfl, fun i a h => by simp at h⟩
  | n + 1, h => by
    obtain ⟨xs, h1, h2⟩ := exists_list (n := n) (p := p) fun i hi => h i (by omega)
    obtain ⟨a, ha⟩ := h n (by omega)
    refine ⟨xs ++ [a], by simp [h1], fun i b hb => ?_⟩
    by_cases hi : i < n
    · rw [List.getElem?_append_left (by omega)] at hb; exact h2 i b hb
    · have : i = n := by
        have := (List.getElem?_eq_some_iff.mp hb).1
        simp at this; omega
      subst this
      rw [List.getElem?_append_right (by omega), h1, Nat.sub_self] at hb
      simp at hb; subst hb; exact ha
theorem flat_rows {α : Type} {f : α → List Value} {sz : Nat} (hf : ∀ a, (f a).length = sz) : ∀ (xs : List α) (l : List Value), (∀ i a, xs[i]? = some a → (l.drop (i * sz)).take sz = f a) → l.take (xs.length * sz) = xs.flatMap f
  | [], l, _ => by simp
  | a :: xs, l, h => by
    have h0 : l.take sz = f a := by simpa using h 0 a rfl
    have ih := flat_rows hf xs (l.drop sz) fun i b hb => by
      have := h (i + 1) b (by simpa using hb)
      rw [List.drop_drop]
      rw [Nat.add_mul, Nat.one_mul, Nat.add_comm] at this
      exact this
    rw [List.length_cons, Nat.add_mul, Nat.one_mul, Nat.add_comm, List.take_add, h0, ih]; rfl
theorem flat_length {α : Type} {f : α → List Value} {sz : Nat} (hf : ∀ a, (f a).length = sz) (xs : List α) : (xs.flatMap f).length = xs.length * sz := by
  induction xs with
  | nil => simp
  | cons a xs ih => simp [hf, ih, Nat.add_mul]; omega

section
variable {X : Type} {enc : TypeId × Value → X} {P : Program} {w : World} {base : Nat} {spare : Nat → Bool} {held : Bool}

theorem cells_at {a : Addr} {c' : Array Value} {e : TypeId} {m : Nat × Nat} (hb : w.heap[a.block]? = some (.cells c' e m)) (hs : a.spot = none) {k sz : Nat} {cs : List Value} (h : w.cells? base (a.add k) sz = some cs) :
    (c'.toList.drop (a.off + k)).take sz = cs := by
  obtain ⟨_, hl, hc⟩ := World.cells?_some h
  apply List.ext_getElem?
  intro i
  rw [List.getElem?_take]
  split
  · rename_i hi
    rw [← hc i hi, List.getElem?_drop]
    have hadd : ∀ (b : Addr) (n : Nat), b.spot = none → b.add n = ⟨b.block, b.off + n, none⟩ := by
      intro b n hn
      unfold Addr.add
      split
      · rename_i h0
        subst h0
        cases b; simp at hn; subst hn; rfl
      · rfl
    rw [hadd a k hs, hadd _ i rfl]
    simp [World.cell?, hb, Nat.add_assoc]
  · rw [List.getElem?_eq_none (by omega)]

/-- A slice whose elements' cells are plain. -/
theorem In.slice {α : Type} {f : α → List Value} {Pr : α → Prop} {sz : Nat} {F : FM} {H : Heap} {nx : Nat} (hi : In w F H nx) {t e : TypeId} {A : Option Addr} {len cap b0 fuel : Nat} {r : Reach} {x : DataW X × List MemPlace}
    (ht : P.underlying t = some (.slice e)) (hsz : P.cellsOf e = sz) (hf : ∀ a, (f a).length = sz) (hok : Cell.ok P w r b0 t (.slice A len cap)) (htr : DataW.trod enc P w base spare held fuel t [.slice A len cap] = some x)
    (helem : ∀ n cs y, DataW.trod enc P w base spare held n e cs = some y → ∃ a, f a = cs ∧ Pr a) (hflat : ∀ a, (f a).all flat1 = true) :
    ∃ (F' : FM) (H' : Heap) (nx' : Nat) (A' : Option Addr) (xs : List α), In w F' H' nx' ∧ F.le F' ∧ VR F' (.slice A' len cap) (.slice A len cap) ∧ xs.length = len ∧ (∀ a ∈ xs, Pr a) ∧ Sl H' nx' A' (xs.flatMap f) ∧ Ext H nx H' nx' ∧ len ≤ maxLen := by
  rcases DataW.trod_slice ht htr with ⟨h0, _⟩ | ⟨a, len', cap', elems, rest, n, _, h0, _, _, hl, hm, hlen, hel, _, _⟩
  · simp at h0
    obtain ⟨rfl, rfl, rfl⟩ := h0
    exact ⟨F, H, nx, none, [], hi, fun _ _ h => h, .sliceN _ _, rfl, by simp, fun i v h => by simp at h, Ext.refl _ _, Nat.zero_le _⟩
  · simp at h0
    obtain ⟨rfl, rfl, rfl⟩ := h0
    have hspot : a.spot = none := by
      simp only [Cell.ok, ht] at hok
      exact hok.2.2.2.1
    obtain ⟨c', ety, m, hb⟩ : ∃ c' ety m, w.heap[a.block]? = some (.cells c' ety m) := by
      simp only [Cell.ok, ht] at hok
      obtain ⟨_, _, _, _, row, cells, hsh, _⟩ := hok
      unfold World.shape? at hsh
      split at hsh
      · exact ⟨_, _, _, by assumption⟩
      · cases hsh
    obtain ⟨xs, hx1, hx2⟩ : ∃ xs : List α, xs.length = len ∧ ∀ i y, xs[i]? = some y → (c'.toList.drop (a.off + i * sz)).take sz = f y ∧ Pr y := by
      refine exists_list fun i hil => ?_
      have h1 := hel i hil
      rw [List.getElem?_eq_getElem (by omega)] at h1
      obtain ⟨cs, h2, h3⟩ := Option.bind_eq_some_iff.mp h1
      obtain ⟨y, rfl, hy⟩ := helem _ _ _ h3
      rw [hsz] at h2
      exact ⟨y, cells_at hb hspot h2, hy⟩
    have hPr : ∀ y ∈ xs, Pr y := fun y hy => by
      obtain ⟨i, hil, rfl⟩ := List.getElem_of_mem hy
      exact (hx2 i _ (List.getElem?_eq_getElem hil)).2
    have hrows : (c'.toList.drop a.off).take (len * sz) = xs.flatMap f := by
      rw [← hx1]
      exact flat_rows hf xs _ fun i y hy => by rw [List.drop_drop]; exact (hx2 i y hy).1
    have hlenF := flat_length hf xs
    by_cases hz : xs.flatMap f = []
    · refine ⟨putF F nx ⟨a.block, a.off, 0, 0, 0⟩, H, nx + 1, some ⟨nx, 0, none⟩, xs, hi.name _, putF_le hi _, ?_, hx1, hPr, fun i v h => by rw [hz] at h; simp at h, Ext.self (by omega), by omega⟩
      have := VR.slice (F := putF F nx ⟨a.block, a.off, 0, 0, 0⟩) (b := nx) (o := 0) (n := len) (c := cap) (c' := cap) (t := ⟨a.block, a.off, 0, 0, 0⟩) (by simp [putF]) (.inl rfl)
      have ha : a = ⟨a.block, a.off + 0, none⟩ := by cases a; simp at hspot; subst hspot; rfl
      rw [ha]; exact this
    · have hle : a.off + (xs.flatMap f).length ≤ c'.size := by
        have h1 := congrArg List.length hrows
        simp only [List.length_take, List.length_drop, Array.length_toList] at h1
        have h2 : 0 < (xs.flatMap f).length := List.length_pos_iff.mpr hz
        omega
      have hvl : VL F (xs.flatMap f) ((c'.toList.drop a.off).take (xs.flatMap f).length) := by
        rw [hlenF, hx1, hrows]
        refine flatL_refl F _ ?_
        rw [List.all_eq_true]
        intro v hv
        obtain ⟨y, _, hy⟩ := List.mem_flatMap.mp hv
        exact List.all_eq_true.mp (hflat y) v hy
      refine ⟨_, _, _, some ⟨nx, 0, none⟩, xs, hi.row hb hle hvl, putF_le hi _, ?_, hx1, hPr, fun i v h => ⟨nx, 0, xs.flatMap f, rfl, by omega, by rw [rowOf, getH_same]; rfl, by rw [Nat.zero_add]; exact h⟩, (Ext.refl H nx).new _ (Nat.le_refl _) (by omega), by omega⟩
      have := VR.slice (F := putF F nx ⟨a.block, a.off, (xs.flatMap f).length, 0, c'.size⟩) (b := nx) (o := 0) (n := len) (c := cap) (c' := cap) (t := ⟨a.block, a.off, (xs.flatMap f).length, 0, c'.size⟩) (by simp [putF]) (.inl rfl)
      have ha : a = ⟨a.block, a.off + 0, none⟩ := by cases a; simp at hspot; subst hspot; rfl
      rw [ha]; exact this

/-- Behind the call: what the arguments hold reads as it did. -/
theorem trodAll_below (hl : laidOutB P = true) {W W' : World} (hb : RowKit.Below W.heap.size W W') : ∀ (ts : List TypeId) (vs : List Value) (ds : List (DataW X)) (ps : List MemPlace), (∀ t ∈ ts, P.readableRec t = true ∧ t < P.types.size) →
    DataW.TrodAll enc P W 0 (fun _ => true) true ts vs ds ps → (∀ x ∈ ps, x.block < W.heap.size) → DataW.TrodAll enc P W' 0 (fun b => decide (b < W.heap.size)) true ts vs ds ps
  | [], [], [], ps, _, h, _ => h
  | t :: ts, v :: vs, d :: ds, ps, ht, ⟨p, q, h1, h2, e⟩, hlt => by
    subst e
    refine ⟨p, q, ?_, trodAll_below hl hb ts vs ds q (fun u hu => ht u (List.mem_cons_of_mem _ hu)) h2 fun x hx => hlt x (List.mem_append_right _ hx), rfl⟩
    obtain ⟨h3, h4⟩ := ht t List.mem_cons_self
    exact RowKit.Below.trod hl h3 h4 h1 hb fun x hx => hlt x (List.mem_append_left _ hx)

theorem post_of_below {f : Func} {s : ChangeSpec} {apart fresh handsOn : Bool} {W W' : World} {args : Array Value} {v : Value} {ds gs : List (DataW X)} {before pa pv : List MemPlace}
    (hW : DataW.Whole enc P f.params.toList s.vars apart W args.toList ds gs before) (hb : RowKit.Below W.heap.size W W')
    (hres : ∀ (b : Nat) (sp : Nat → Bool) (hd : Bool), DataW.TrodAll enc P W' b sp hd f.resultTypes.toList (v.resultList f.resultTypes.size) (s.fn X (ds ++ gs)).results [])
    (hargs : DataW.TrodAll enc P W' 0 (fun b => decide (b < W.heap.size)) true f.params.toList args.toList (s.fn X (ds ++ gs)).args pa)
    (hvars : DataW.TrodVars enc P W' (fun b => decide (b < W.heap.size)) s.vars (s.fn X (ds ++ gs)).vars pv) : s.post enc P f apart fresh handsOn false W args v W' :=
  ⟨ds, gs, before, [], pa, pv, hW, hres _ _ _, hargs, hvars, hb.frame _, fun h => by cases h⟩
end
end Go.Clo

set_option linter.unusedSimpArgs false
set_option linter.unusedVariables false
set_option linter.unusedSectionVars false
namespace Go.Clo

theorem rowAt_off {p : Program} {fits : TypeId → Bool} {d : Nat} {e : TypeId} {count off n : Nat} (h : rowAt p fits d e count off n = true) : off ≤ count * p.cellsOf e := by
  cases d with
  | zero => simp [rowAt] at h
  | succ d =>
    unfold rowAt at h
    simp only at h
    split at h
    · cases h
    · rename_i hs
      have h1 := Nat.div_add_mod off (p.cellsOf e)
      have h3 : off % p.cellsOf e < p.cellsOf e := Nat.mod_lt _ (by omega)
      rw [Bool.or_eq_true] at h
      rcases h with h | h
      · simp only [Bool.and_eq_true, beq_iff_eq, decide_eq_true_eq] at h
        obtain ⟨⟨hr, hi⟩, _⟩ := h
        rw [hr, Nat.add_zero, Nat.mul_comm] at h1
        rw [← h1]
        exact Nat.mul_le_mul_right _ (by omega)
      · simp only [Bool.and_eq_true, decide_eq_true_eq] at h
        have h2 : (off / p.cellsOf e + 1) * p.cellsOf e ≤ count * p.cellsOf e := Nat.mul_le_mul_right _ (by omega)
        rw [Nat.add_mul, Nat.one_mul, Nat.mul_comm] at h2
        omega
theorem liesAt_off {p : Program} {e : TypeId} {count off : Nat} : ∀ {d : Nat} {u : TypeId} {n : Nat}, liesAt p d e count off u n = true → off ≤ count * p.cellsOf e
  | 0, _, _, h => by simp [liesAt] at h
  | d + 1, u, n, h => by
    unfold liesAt at h
    rw [Bool.or_eq_true] at h
    rcases h with h | h
    · exact rowAt_off h
    · split at h
      · exact liesAt_off h
      · cases h

/-- A slice's row is there, though it may have no elements. -/
def Has (H : Heap) (nx : Nat) (A : Option Addr) : Prop := A = none ∨ ∃ b o row, A = some ⟨b, o, none⟩ ∧ b < nx ∧ rowOf H b = some row
theorem Has.ext {H : Heap} {nx : Nat} {A : Option Addr} {H' : Heap} {nx' : Nat} (h : Has H nx A) (e : Ext H nx H' nx') : Has H' nx' A := by
  rcases h with h | ⟨b, o, row, h1, h2, h3⟩
  · exact .inl h
  · exact .inr ⟨b, o, row, h1, Nat.lt_of_lt_of_le h2 e.le, by rw [e.row h2]; exact h3⟩

section
variable {X : Type} {enc : TypeId × Value → X} {P : Program} {w : World} {base : Nat} {spare : Nat → Bool} {held : Bool}

/-- A slice whose elements' cells are plain; its row is there. -/
theorem In.sliceH {α : Type} {f : α → List Value} {Pr : α → Prop} {sz : Nat} {F : FM} {H : Heap} {nx : Nat} (hi : In w F H nx) {t e : TypeId} {A : Option Addr} {len cap b0 fuel : Nat} {r : Reach} {x : DataW X × List MemPlace}
    (ht : P.underlying t = some (.slice e)) (hsz : P.cellsOf e = sz) (hf : ∀ a, (f a).length = sz) (hok : Cell.ok P w r b0 t (.slice A len cap)) (htr : DataW.trod enc P w base spare held fuel t [.slice A len cap] = some x)
    (helem : ∀ n cs y, DataW.trod enc P w base spare held n e cs = some y → ∃ a, f a = cs ∧ Pr a) (hflat : ∀ a, (f a).all flat1 = true) :
    ∃ (F' : FM) (H' : Heap) (nx' : Nat) (A' : Option Addr) (xs : List α), In w F' H' nx' ∧ F.le F' ∧ VR F' (.slice A' len cap) (.slice A len cap) ∧ xs.length = len ∧ (∀ a ∈ xs, Pr a) ∧ Sl H' nx' A' (xs.flatMap f) ∧ Ext H nx H' nx' ∧ len ≤ maxLen ∧ Has H' nx' A' := by
  rcases DataW.trod_slice ht htr with ⟨h0, _⟩ | ⟨a, len', cap', elems, rest, n, _, h0, _, _, hl, hm, hlen, hel, _, _⟩
  · simp at h0
    obtain ⟨rfl, rfl, rfl⟩ := h0
    exact ⟨F, H, nx, none, [], hi, fun _ _ h => h, .sliceN _ _, rfl, by simp, fun i v h => by simp at h, Ext.refl _ _, Nat.zero_le _, .inl rfl⟩
  · simp at h0
    obtain ⟨rfl, rfl, rfl⟩ := h0
    have hspot : a.spot = none := by
      simp only [Cell.ok, ht] at hok
      exact hok.2.2.2.1
    obtain ⟨c', ety, m, hb, hoff⟩ : ∃ c' ety m, w.heap[a.block]? = some (.cells c' ety m) ∧ a.off ≤ c'.size := by
      simp only [Cell.ok, ht] at hok
      obtain ⟨_, _, _, _, row, cells, hsh, hlies⟩ := hok
      unfold World.shape? at hsh
      split at hsh
      · rename_i cc ee mm hcell
        cases hsh
        refine ⟨_, _, _, hcell, ?_⟩
        have h1 := liesAt_off hlies
        exact Nat.le_trans h1 (Nat.div_mul_le_self _ _)
      · cases hsh
    obtain ⟨xs, hx1, hx2⟩ : ∃ xs : List α, xs.length = len ∧ ∀ i y, xs[i]? = some y → (c'.toList.drop (a.off + i * sz)).take sz = f y ∧ Pr y := by
      refine exists_list fun i hil => ?_
      have h1 := hel i hil
      rw [List.getElem?_eq_getElem (by omega)] at h1
      obtain ⟨cs, h2, h3⟩ := Option.bind_eq_some_iff.mp h1
      obtain ⟨y, rfl, hy⟩ := helem _ _ _ h3
      rw [hsz] at h2
      exact ⟨y, cells_at hb hspot h2, hy⟩
    have hPr : ∀ y ∈ xs, Pr y := fun y hy => by
      obtain ⟨i, hil, rfl⟩ := List.getElem_of_mem hy
      exact (hx2 i _ (List.getElem?_eq_getElem hil)).2
    have hrows : (c'.toList.drop a.off).take (len * sz) = xs.flatMap f := by
      rw [← hx1]
      exact flat_rows hf xs _ fun i y hy => by rw [List.drop_drop]; exact (hx2 i y hy).1
    have hlenF := flat_length hf xs
    have hle : a.off + (xs.flatMap f).length ≤ c'.size := by
      have h1 := congrArg List.length hrows
      simp only [List.length_take, List.length_drop, Array.length_toList] at h1
      omega
    have hvl : VL F (xs.flatMap f) ((c'.toList.drop a.off).take (xs.flatMap f).length) := by
      rw [hlenF, hx1, hrows]
      refine flatL_refl F _ ?_
      rw [List.all_eq_true]
      intro v hv
      obtain ⟨y, _, hy⟩ := List.mem_flatMap.mp hv
      exact List.all_eq_true.mp (hflat y) v hy
    have hrow : rowOf (hs H nx (some (.rom (xs.flatMap f)))) nx = some (xs.flatMap f) := by rw [rowOf, getH_same]; rfl
    refine ⟨_, _, _, some ⟨nx, 0, none⟩, xs, hi.row hb hle hvl, putF_le hi _, ?_, hx1, hPr, fun i v h => ⟨nx, 0, xs.flatMap f, rfl, by omega, hrow, by rw [Nat.zero_add]; exact h⟩, (Ext.refl H nx).new _ (Nat.le_refl _) (by omega), by omega, .inr ⟨nx, 0, _, rfl, by omega, hrow⟩⟩
    have := VR.slice (F := putF F nx ⟨a.block, a.off, (xs.flatMap f).length, 0, c'.size⟩) (b := nx) (o := 0) (n := len) (c := cap) (c' := cap) (t := ⟨a.block, a.off, (xs.flatMap f).length, 0, c'.size⟩) (by simp [putF]) (.inl rfl)
    have ha : a = ⟨a.block, a.off + 0, none⟩ := by cases a; simp at hspot; subst hspot; rfl
    rw [ha]; exact this
end

/-- Nothing is appended. -/
theorem src_none {H : Heap} {nx size : Nat} {A : Option Addr} {cap : Nat} (h : Has H nx A) : Src H size (.slice A 0 cap) 0 [] := by
  refine ⟨rfl, fun k => ?_, by simp⟩
  rcases h with rfl | ⟨b, o, row, rfl, _, hrow⟩
  · rfl
  · unfold rowOf at hrow
    cases hg : getH H b with
    | none => rw [hg] at hrow; cases hrow
    | some blk =>
      rw [hg] at hrow
      show rowK H ⟨b, o, none⟩ (0 * size) False k = k []
      unfold rowK
      simp only
      rw [getB_eq, hg, Nat.zero_mul]
      cases blk with
      | cells c sl => rfl
      | map es c => simp [Blk.row] at hrow
      | rom c => rfl
theorem src_any {H : Heap} {nx size : Nat} {A : Option Addr} {m cap : Nat} {l : List Value} (h : Sl H nx A l) (h0 : Has H nx A) (hl : l.length = m * size) (hsz : 0 < size) : Src H size (.slice A m cap) m l := by
  cases m with
  | zero =>
    have : l = [] := by simpa using hl
    subst this
    exact src_none h0
  | succ m => exact src_sl h hl (Nat.mul_pos (by omega) hsz)
theorem wApp_zero {H : Heap} {nx size bytes : Nat} {x : Value} (hx : Src H size x 0 []) (hb : bytes ≤ 1000) (k : EP) : wApp (.slice none 0 0) x size bytes H nx k = k (.slice none 0 0) H nx := by
  unfold wApp appK
  rw [hx.len]
  dsimp only
  have h1 : (2 * (0 + 0) + 1000) * bytes ≤ 281474976710656 := by omega
  rw [forceN_eq, bltrue h1, bltrue (show 0 + 0 ≤ 1000000000 by omega)]
  simp only [Bool.and_self, cond_true]
  rw [hx.first]
  rfl
theorem wCopy_row {H : Heap} {nx b n cap size m sl : Nat} {row l : List Value} {x : Value} (hg : getH H b = some (.cells row sl)) (hx : Src H size x m l) (hm : m ≤ n) (ho : oneCells l = true) (hl : l.length ≤ row.length) (k : EP) :
    wCopy (.slice (some ⟨b, 0, none⟩) n cap) x size H nx k = k (.int .i64 (m : Int)) (hs H b (some (.cells (putL row 0 l) sl))) nx := by
  unfold wCopy
  rw [hx.len]
  dsimp only
  have e : Nat.min m n = m := Nat.min_eq_left hm
  rw [forceN_eq, e, hx.first, ho]
  simp only [cond_true]
  rw [putCK_eq, hg]
  simp only [stP, Nat.zero_add, hl, true_and]
  rfl

/-! Arrays of numbers in memory. -/
theorem putL_get {c : List Value} {o : Nat} {x : Value} (h : o < c.length) : putL c o [x] = c.set o x := by
  unfold putL
  rw [List.set_eq_take_append_cons_drop, if_pos h]
  simp
theorem set_u32s {l : List Nat} {i x : Nat} : (u32s l).set i (.int .u32 (x : Int)) = u32s (l.set i x) := by simp [u32s, List.map_set]
theorem set_i64s {l : List Int} {i : Nat} {x : Int} : (i64s l).set i (.int .i64 x) = i64s (l.set i x) := by simp [i64s, List.map_set]
theorem putL_u32s {l : List Nat} {i x : Nat} (h : i < l.length) : putL (u32s l) i [.int .u32 (x : Int)] = u32s (l.set i x) := by rw [putL_get (by rw [u32s_length]; exact h), set_u32s]
theorem putL_i64s {l : List Int} {i : Nat} {x : Int} (h : i < l.length) : putL (i64s l) i [.int .i64 x] = i64s (l.set i x) := by rw [putL_get (by rw [i64s_length]; exact h), set_i64s]
end Go.Clo

set_option linter.unusedSimpArgs false
set_option linter.unusedVariables false
set_option linter.unusedSectionVars false
namespace Go.Clo

/-- Nothing that has a name has turned. -/
theorem Stp.below {F : FM} {H : Heap} {nx : Nat} {w w' : World} (hh : HR F H nx w) (hb : RowKit.Below w.heap.size w w') : Stp F H nx w F H nx w' :=
  { le := Nat.le_refl _, ext := fun _ _ => rfl, os := hb.os, tape := hb.tape, output := hb.output, size := hb.size, frame := fun b h _ => hb.block b h, own := fun _ h => .inl h, keep := fun _ _ h => h, rom := fun i b h _ => ⟨hh.low h, h⟩, hr := ⟨fun i b hi hg => let ⟨t, h1, h2⟩ := hh.blk i b hi hg; ⟨t, h1, h2.mono (fun _ _ h => h) (hb.block _ h2.lt)⟩, hh.inj, hh.fresh, hh.top, hh.gl.step (fun b h _ => hb.block b h) (fun _ h => .inl h)⟩ }
theorem below_refl (w : World) : RowKit.Below w.heap.size w w := ⟨rfl, rfl, rfl, Nat.le_refl _, fun _ _ => rfl⟩

/-- A function of values alone. -/
theorem ans_flat {P : Program} {f : FuncId} {args : List Value} {v : Value} (hE : Enters P f) (ha : args.all flat1 = true) (hv : flat v = true) (h : ∀ w, Calls P f args.toArray w fun e w' => e = .returned v ∧ w' = w) (H : Heap) (nx : Nat) :
    Ans P f args H nx fun r H' nx' => v = r ∧ H = H' ∧ nx = nx' := by
  refine ⟨v, H, nx, ⟨hE, fun F args' w hh hl => ?_⟩, rfl, rfl, rfl⟩
  have e := flatL_eq hl ha
  subst e
  refine (h w).mono fun e w' ⟨he, hw⟩ => ?_
  subst hw
  exact ⟨v, F, he, flat_refl F v hv, Stp.refl hh⟩

/-- The cells of a slice, in the world. -/
theorem cell_of_sl {F : FM} {H : Heap} {nx : Nat} {w : World} (hh : HR F H nx w) {b o : Nat} {t : Tgt} {xs : List Value} (hF : F b = some t) (hS : Sl H nx (some ⟨b, o, none⟩) xs) {i : Nat} {v : Value} (hi : xs[i]? = some v) :
    ∃ v', w.cell? ⟨t.blk, t.base + o + i, none⟩ = some v' ∧ VR F v v' := by
  obtain ⟨b', o', row, e, hb, hrow, hv⟩ := hS i v hi
  cases e
  unfold rowOf at hrow
  cases hg : getH H b with
  | none => rw [hg] at hrow; cases hrow
  | some blk =>
    rw [hg] at hrow
    have hbr := hh.hb.get hF hg
    have main : ∀ (c : List Value) (c' : Array Value), row = c → VL F c ((c'.toList.drop t.base).take c.length) → ∃ v', c'[t.base + o + i]? = some v' ∧ VR F v v' := by
      intro c c' e hvl
      subst e
      obtain ⟨v', h1, h2⟩ := hvl.some hv
      refine ⟨v', ?_, h2⟩
      rw [List.getElem?_take] at h1
      split at h1
      · rw [List.getElem?_drop, Array.getElem?_toList] at h1
        rw [← h1]; congr 1; omega
      · cases h1
    cases blk with
    | map es q => cases hrow
    | cells c sl =>
      obtain ⟨c', e, hw, _, _, _, _, hvl⟩ := hbr
      simp only [Option.bind_some, Blk.row, Option.some.injEq] at hrow
      obtain ⟨v', h1, h2⟩ := main c c' hrow.symm hvl
      exact ⟨v', by simp [World.cell?, hw, h1], h2⟩
    | rom c =>
      obtain ⟨c', e, m, hw, _, _, _, _, hvl⟩ := hbr
      simp only [Option.bind_some, Blk.row, Option.some.injEq] at hrow
      obtain ⟨v', h1, h2⟩ := main c c' hrow.symm hvl
      exact ⟨v', by simp [World.cell?, hw, h1], h2⟩
theorem blk_of_sl {F : FM} {H : Heap} {nx : Nat} {w : World} (hh : HR F H nx w) {b o : Nat} {t : Tgt} {xs : List Value} (hF : F b = some t) (hS : Sl H nx (some ⟨b, o, none⟩) xs) (h0 : 0 < xs.length) : t.blk < w.heap.size := by
  obtain ⟨v', h1, _⟩ := cell_of_sl hh hF hS (List.getElem?_eq_getElem h0)
  unfold World.cell? at h1
  rcases Nat.lt_or_ge t.blk w.heap.size with g | g
  · exact g
  · rw [Array.getElem?_eq_none g] at h1; cases h1

/-- A new row that the call has made, one cell an element. -/
theorem Stp.row {F : FM} {H : Heap} {nx : Nat} {w w' : World} (hh : HR F H nx w) (hb : RowKit.Below w.heap.size w w') {g cap : Nat} {cur : Array Value} {e : TypeId} {xs : List Value} (hg : w.heap.size ≤ g) (hc : w'.heap[g]? = some (.cells cur e (0, 0)))
    (h1 : xs.length ≤ cap) (h2 : cur.size = cap) (h3 : cur.toList.take xs.length = xs) (hfl : xs.all flat1 = true) :
    ∃ F', VR F' (.slice (some ⟨nx, 0, none⟩) xs.length xs.length) (.slice (some ⟨g, 0, none⟩) xs.length cap) ∧ Stp F H nx w F' (hs H nx (some (.cells xs 1))) (nx + 1) w' := by
  refine ⟨upd F nx ⟨g, 0, xs.length, 1, cap⟩, ?_, Stp.name hh rfl hb.os hb.tape hb.output hb.size (fun k hk => hb.block k hk) ?_ hg⟩
  · have := VR.slice (F := upd F nx ⟨g, 0, xs.length, 1, cap⟩) (b := nx) (o := 0) (n := xs.length) (c := xs.length) (c' := cap) (t := ⟨g, 0, xs.length, 1, cap⟩) (upd_same _ _ _) (.inr ⟨Nat.one_pos, h1, by simp, by simp⟩)
    exact this
  · refine ⟨cur, e, hc, h2, rfl, rfl, by simpa using h1, ?_⟩
    simp only [List.drop_zero]
    rw [h3]
    exact flatL_refl _ _ hfl
theorem Acc.of_new (H : Heap) (nx : Nat) (xs : List Value) : Acc nx (Go.Clo.hs H nx (some (.cells xs 1))) (nx + 1) 1 (.slice (some ⟨nx, 0, none⟩) xs.length xs.length) xs.length xs :=
  ⟨by simp, .inr ⟨nx, Nat.le_refl _, by omega, rfl, getH_same _ _ _⟩⟩

/-! Strings in memory. -/
def strs (zs : List ByteArray) : List Value := zs.map Value.string
theorem strs_get {zs : List ByteArray} {i : Nat} {z : ByteArray} (h : zs[i]? = some z) : (strs zs)[i]? = some (.string z) := by simp [strs, h]
theorem strs_length (zs : List ByteArray) : (strs zs).length = zs.length := by simp [strs]
theorem strs_flat (zs : List ByteArray) : (strs zs).all flat1 = true := by simp [strs, flat1]
theorem oneCells_strs : ∀ zs : List ByteArray, oneCells (strs zs) = true
  | [] => rfl
  | z :: zs => oneCells_strs zs
end Go.Clo

set_option linter.unusedSimpArgs false
set_option linter.unusedVariables false
set_option linter.unusedSectionVars false
namespace Go.Clo

theorem dBsl_none (z : List Value) (k : List Value → Prop) : dBsl 0 1 z [] k = k [] := by
  rw [dBsl_eq]
  show (if oneCells [] = true then k [] else False) = _
  exact if_pos (show oneCells [] = true from rfl)
theorem firstK_lit {H : Heap} {size n b cap sl : Nat} {c : List Value} (hsz : 0 < size) (hg : getH H b = some (.cells c sl)) (hl : c.length = n * size) (k : List Value → Prop) : firstK H size n (.slice (some ⟨b, 0, none⟩) n cap) False k = k c := by
  rcases Nat.eq_zero_or_pos n with h0 | h0
  · subst h0
    simp at hl; subst hl
    unfold firstK rowK
    dsimp only
    rw [getB_eq, hg]
    simp only [Option.elim_some, Nat.zero_mul, takeN]
    exact spine_eq _ _
  · exact (src_new hg hl (Nat.mul_pos h0 hsz)).first k
theorem wApp_lit {H : Heap} {nx size bytes b n : Nat} {c : List Value} {x : Value} {m : Nat} {l : List Value} {k : EP} (hsz : 0 < size) (hg : getH H b = some (.cells c 0)) (hl : c.length = n * size) (hx : Src H size x m l) (hm : 0 < m) (ho : oneCells l = true)
    (hb1 : (2 * (n + m) + 1000) * bytes ≤ 281474976710656) (hb2 : n + m ≤ 1000000000) : wApp (.slice (some ⟨b, 0, none⟩) n n) x size bytes H nx k = k (.slice (some ⟨nx, 0, none⟩) (n + m) (n + m)) (hs H nx (some (.cells (c ++ l) size))) (nx + 1) := by
  have hlen : (c ++ l).length = (n + m) * size := by rw [List.length_append, hl, hx.size, Nat.add_mul]
  unfold wApp appK
  rw [hx.len]
  dsimp only
  rw [forceN_eq, bltrue hb1, bltrue hb2]
  simp only [Bool.and_self, cond_true]
  rw [hx.first, ho, blfalse (show n < n + m by omega)]
  simp only [cond_true, cond_false]
  rw [firstK_lit hsz hg hl, spine_eq, hlen, beqtrue]
  simp only [cond_true, appOut]
  rw [getB_eq, hg]
  simp only [Option.elim_some]
  have hls : looseA (.cells c 0) 0 n size = some false := rfl
  rw [hls]
  dsimp only
  simp only [appNew]
  rw [forceN_eq, forceN_eq, hsK_eq]
theorem wApp_lit0 {H : Heap} {nx size bytes b n : Nat} {c : List Value} {x : Value} {k : EP} (hg : getH H b = some (.cells c 0)) (hl : c.length = n * size) (hx : Src H size x 0 [])
    (hb1 : (2 * n + 1000) * bytes ≤ 281474976710656) (hb2 : n ≤ 1000000000) : wApp (.slice (some ⟨b, 0, none⟩) n n) x size bytes H nx k = k (.slice (some ⟨b, 0, none⟩) n n) (hs H b (some (.cells c 0))) nx := by
  unfold wApp appK
  rw [hx.len]
  dsimp only
  rw [forceN_eq, bltrue (show (2 * (n + 0) + 1000) * bytes ≤ 281474976710656 from hb1), bltrue (show n + 0 ≤ 1000000000 from hb2)]
  simp only [Bool.and_self, cond_true]
  rw [hx.first]
  simp only [oneCells, cond_true, Nat.add_zero, bltrue (Nat.le_refl n), appIn, forceN_eq]
  rw [putCK_eq, hg]
  simp only [stP_cells, List.length_nil, Nat.add_zero, Nat.zero_add, putL, List.append_nil, List.take_append_drop, hl, Nat.le_refl, true_and]


theorem wVf_isnil (t : TypeId) (A : Option Addr) (n c : Nat) (k : VP) : wVf (.eqn false (.slice t)) [.slice A n c, .slice none 0 0] k = k (.bool A.isNone) := by
  have e : VF.ev (.eqn false (.slice t)) [.slice A n c, .slice none 0 0] = some (.bool A.isNone) := by cases A <;> rfl
  unfold wVf
  rw [e, optK_eq]; rfl
theorem wVf_minN (a b : Nat) (k : VP) : wVf (.mm false) [.int .i64 (a : Int), .int .i64 (b : Int)] k = k (.int .i64 ((min a b : Nat) : Int)) := by
  have e : VF.ev (.mm false) [.int .i64 (a : Int), .int .i64 (b : Int)] = some (.int .i64 ((min a b : Nat) : Int)) := by
    show some (Value.int .i64 (if (b : Int) < (a : Int) then (b : Int) else (a : Int))) = _
    congr 2
    split <;> omega
  unfold wVf
  rw [e, optK_eq]; rfl
theorem wBin_mul64 {a b : Int} (k : VP) (h1 : -9223372036854775808 ≤ a * b) (h2 : a * b < 9223372036854775808) : wBin .mul (.int .i64 a) (.int .i64 b) k = k (.int .i64 (a * b)) := by rw [wBin_mul, i64_id h1 h2]
theorem repeatA_int (z : Int) : ∀ m, repeatA [.int .i64 z] m = i64s (List.replicate m z)
  | 0 => rfl
  | m + 1 => by rw [repeatA, repeatA_int z m]; rfl
theorem dMsl_ints {n : Nat} (h : n ≤ 1000000) (z : Int) (k : List Value → Nat → Nat → Prop) : dMsl (.int .i64 (n : Int)) (.int .i64 (n : Int)) [.int .i64 z] k = k (i64s (List.replicate n z)) n n := by
  show (cond (Nat.ble n n && Nat.ble n 1000000) (Go.Clo.spine (repeatA [.int .i64 z] n) fun cs => k cs n n) False) = _
  rw [bltrue (Nat.le_refl n), bltrue h, repeatA_int]
  exact spine_eq _ _
theorem oneCells_i64s : ∀ l : List Int, oneCells (i64s l) = true
  | [] => rfl
  | x :: l => oneCells_i64s l
theorem sl_new {H : Heap} {nx b sl : Nat} {c : List Value} (hb : b < nx) (hg : getH H b = some (.cells c sl)) : Sl H nx (some ⟨b, 0, none⟩) c := fun i u hu => ⟨b, 0, c, rfl, hb, by simp [rowOf, hg, Blk.row], by simpa using hu⟩
/-- A slice that a function has made, beginning with an empty one of its own. -/
def AccL (lo : Nat) (H : Heap) (nx : Nat) (v : Value) (c : List Value) : Prop :=
  Acc lo H nx 1 v c.length c ∨ (c = [] ∧ ∃ b, lo ≤ b ∧ b < nx ∧ v = .slice (some ⟨b, 0, none⟩) 0 0 ∧ getH H b = some (.cells [] 0))
theorem AccL.ext {lo : Nat} {H : Heap} {nx : Nat} {v : Value} {c : List Value} {H' : Heap} {nx' : Nat} (h : AccL lo H nx v c) (e : Ext H nx H' nx') : AccL lo H' nx' v c := by
  rcases h with h | ⟨h0, b, h1, h2, h3, h4⟩
  · exact .inl (h.ext e)
  · exact .inr ⟨h0, b, h1, Nat.lt_of_lt_of_le h2 e.le, h3, by rw [e.get b h2]; exact h4⟩
theorem AccL.sl {lo : Nat} {H : Heap} {nx : Nat} {v : Value} {c : List Value} (h : AccL lo H nx v c) : ∃ A, v = .slice A c.length c.length ∧ Sl H nx A c ∧ Has H nx A := by
  rcases h with h | ⟨rfl, b, h1, h2, rfl, h4⟩
  · obtain ⟨A, rfl, hS⟩ := h.sl
    refine ⟨A, rfl, hS, ?_⟩
    rcases h.2 with ⟨_, e⟩ | ⟨b, _, h2, e, h4⟩
    · injection e with e1
      exact .inl e1
    · injection e with e1
      subst e1
      exact .inr ⟨b, 0, c, rfl, h2, by simp [rowOf, h4, Blk.row]⟩
  · exact ⟨_, rfl, Sl.nil _ _ _, .inr ⟨b, 0, [], rfl, h2, by simp [rowOf, h4, Blk.row]⟩⟩
theorem wApp_accL {lo : Nat} {H : Heap} {nx bytes : Nat} {v : Value} {c : List Value} {x y : Value} {H0 : Heap} {k : EP} (hA : AccL lo H nx v c) (hx : Src H 1 x 1 [y]) (ho : oneCells [y] = true) (hb : bytes ≤ 16) (hlen : c.length ≤ 1000000) (hE : Ext H0 lo H nx) (hlo : lo ≤ nx)
    (hk : ∀ v' H', AccL lo H' (nx + 1) v' (c ++ [y]) → Ext H0 lo H' (nx + 1) → (∀ i, i < lo → getH H' i = getH H i) → k v' H' (nx + 1)) : wApp v x 1 bytes H nx k := by
  have hb1 : (2 * (c.length + 1) + 1000) * bytes ≤ 281474976710656 := by
    have := Nat.mul_le_mul (show 2 * (c.length + 1) + 1000 ≤ 2 * 1000001 + 1000 by omega) hb
    omega
  rcases hA with hA | ⟨rfl, b, h1, h2, rfl, h4⟩
  · have hblk : ∀ A n' c', v = .slice (some A) n' c' → lo ≤ A.block := fun A n' c' e => by
      rcases hA.2 with ⟨_, e'⟩ | ⟨b, h1, _, e', _⟩
      · rw [e'] at e; cases e
      · rw [e'] at e; cases e; exact h1
    refine wApp_acc (by omega) hA hx (by omega) ho hb1 (by omega) hE hlo fun v' H' h1 h2 h3 => hk v' H' (.inl ?_) h2 fun i hi => h3 i (by omega) fun A n' c' e => by have := hblk A n' c' e; omega
    rw [List.length_append]; exact h1
  · rw [wApp_lit (n := 0) (by omega) h4 (by simp) hx (by omega) ho (by simpa using hb1) (by omega)]
    exact hk _ _ (.inl ⟨rfl, .inr ⟨nx, hlo, by omega, rfl, getH_same _ _ _⟩⟩) (hE.new _ hlo (by omega)) fun i hi => getH_ne _ (by omega)


theorem wCallV_rule {P : Program} {g : FuncId} {first cap args : List Value} {H : Heap} {nx : Nat} {k : EP} {Q : EP} (h : Ans P g (first ++ args ++ cap) H nx Q) (hk : ∀ v H' nx', Q v H' nx' → k v H' nx') :
    wCallV P (.func (.func g) ⟨first⟩ ⟨cap⟩) args H nx k := by
  show spine (first ++ args ++ cap) (fun vs => callP P g vs H nx False k)
  rw [spine_eq]
  exact .inr (h.mono hk)

theorem wApp_litL {lo : Nat} {H : Heap} {nx b bytes m : Nat} {x : Value} {l : List Value} {H0 : Heap} {k : EP} (hg : getH H b = some (.cells [] 0)) (hlo : lo ≤ b) (hb : b < nx) (hx : Src H 1 x m l) (ho : oneCells l = true) (hm : m ≤ 1000000) (hby : bytes ≤ 16) (hE : Ext H0 lo H nx)
    (hk : ∀ v' H' nx', nx ≤ nx' → AccL lo H' nx' v' l → Ext H0 lo H' nx' → k v' H' nx') : wApp (.slice (some ⟨b, 0, none⟩) 0 0) x 1 bytes H nx k := by
  have hb1 : (2 * (0 + m) + 1000) * bytes ≤ 281474976710656 := by
    have := Nat.mul_le_mul (show 2 * (0 + m) + 1000 ≤ 2 * 1000000 + 1000 by omega) hby
    omega
  have hl := hx.size
  rcases Nat.eq_zero_or_pos m with h0 | h0
  · subst h0
    have : l = [] := List.length_eq_zero_iff.1 (by omega)
    subst this
    rw [wApp_lit0 (n := 0) hg (by rfl) hx (by omega) (by omega)]
    exact hk _ _ _ (Nat.le_refl _) (.inr ⟨rfl, b, hlo, hb, rfl, getH_same _ _ _⟩) (hE.hs hlo)
  · rw [wApp_lit (n := 0) (by omega) hg (by simp) hx h0 ho hb1 (by omega)]
    refine hk _ _ _ (by omega) (.inl ⟨by omega, .inr ⟨nx, by omega, by omega, ?_, ?_⟩⟩) (hE.new _ (by omega) (by omega))
    · rw [Nat.zero_add, hl, Nat.mul_one]
    · rw [getH_same]; rfl
end Go.Clo

set_option linter.unusedSimpArgs false
set_option linter.unusedVariables false
set_option linter.unusedSectionVars false
namespace Go.Clo

/-- Block r is a map whose keys are the strings of S, all with the value true. -/
def SetM (H : Heap) (r : Nat) (S : ByteArray → Bool) : Prop :=
  ∃ es c, getH H r = some (.map es c) ∧ (∀ x ∈ es, MapKept.IsKey .string x.key ∧ x.val = .bool true) ∧ ∀ s, S s = true ↔ ∃ x ∈ es, x.key = .string s
theorem SetM.ext {H : Heap} {nx r : Nat} {S : ByteArray → Bool} {H' : Heap} {nx' : Nat} (h : SetM H r S) (hr : r < nx) (e : Ext H nx H' nx') : SetM H' r S := by
  obtain ⟨es, c, h1, h2, h3⟩ := h
  exact ⟨es, c, by rw [e.get r hr]; exact h1, h2, h3⟩
theorem SetM.same {H H' : Heap} {r : Nat} {S : ByteArray → Bool} (h : SetM H r S) (e : getH H' r = getH H r) : SetM H' r S := by
  obtain ⟨es, c, h1, h2, h3⟩ := h
  exact ⟨es, c, by rw [e]; exact h1, h2, h3⟩
theorem SetM.congr {H : Heap} {r : Nat} {S S' : ByteArray → Bool} (h : SetM H r S) (e : ∀ s, S s = S' s) : SetM H r S' := by
  obtain ⟨es, c, h1, h2, h3⟩ := h
  exact ⟨es, c, h1, h2, fun s => by rw [← e s]; exact h3 s⟩
theorem SetM.nil {H : Heap} {r c : Nat} (h : getH H r = some (.map [] c)) : SetM H r fun _ => false :=
  ⟨[], c, h, by simp, fun s => by simp⟩
theorem SetM.find {es : List MapEntry} {S : ByteArray → Bool} (h2 : ∀ x ∈ es, MapKept.IsKey .string x.key ∧ x.val = .bool true) (h3 : ∀ s, S s = true ↔ ∃ x ∈ es, x.key = .string s) (s : ByteArray) :
    (S s = false ∧ Instr.findNow .string (.string s) es 0 = some none) ∨ (S s = true ∧ ∃ j e, Instr.findNow .string (.string s) es 0 = some (some (j, .bool true)) ∧ es[j]? = some e ∧ e.key = .string s) := by
  rcases MapKept.findNow_spec (d := .string) (k := .string s) trivial es 0 (fun x hx => (h2 x hx).1) with ⟨h, hn⟩ | ⟨j, e, h, hj, hk⟩
  · refine .inl ⟨?_, h⟩
    cases hS : S s with
    | false => rfl
    | true =>
      obtain ⟨x, hx, hxk⟩ := (h3 s).1 hS
      exact absurd hxk (hn x hx)
  · have hm := List.mem_of_getElem? hj
    refine .inr ⟨(h3 s).2 ⟨e, hm, hk⟩, j, e, ?_, hj, hk⟩
    rw [h, (h2 e hm).2, Nat.zero_add]
theorem SetM.lk {H : Heap} {r : Nat} {S : ByteArray → Bool} (h : SetM H r S) (s : ByteArray) (k : VP) : wLk .string (.bool false) (.map (some r)) (.string s) false H k = k (.bool (S s)) := by
  obtain ⟨es, c, h1, h2, h3⟩ := h
  unfold wLk
  rw [show keyKind .string (.string s) = true from rfl]
  simp only [cond_true]
  rw [getB_eq, h1]
  simp only [Option.elim_some]
  rcases SetM.find h2 h3 s with ⟨hS, hf⟩ | ⟨hS, j, e, hf, _⟩
  · rw [hf, hS]; rfl
  · rw [hf, hS]; rfl
theorem SetM.put {H : Heap} {nx r : Nat} {S : ByteArray → Bool} (h : SetM H r S) (s : ByteArray) {k : EP} (hk : ∀ b, SetM (hs H r (some b)) r (fun t => S t || decide (t = s)) → k undef (hs H r (some b)) nx) : wUpd .string (.map (some r)) (.string s) (.bool true) H nx k := by
  obtain ⟨es, c, h1, h2, h3⟩ := h
  unfold wUpd
  dsimp only
  rw [getB_eq, h1]
  simp only [Option.elim_some, updK]
  rw [show keyKind .string (.string s) = true from rfl]
  rcases SetM.find h2 h3 s with ⟨hS, hf⟩ | ⟨hS, j, e, hf, hj, hke⟩
  · rw [hf]
    simp only [cond_true]
    rw [spine_eq, forceN_eq, hsK_eq]
    refine hk _ ⟨_, _, getH_same _ _ _, ?_, fun t => ?_⟩
    · intro x hx
      rcases List.mem_append.1 hx with hx | hx
      · exact h2 x hx
      · rw [List.mem_singleton.1 hx]; exact ⟨trivial, rfl⟩
    · rw [Bool.or_eq_true, h3, decide_eq_true_eq]
      constructor
      · rintro (⟨x, hx, hxk⟩ | rfl)
        · exact ⟨x, List.mem_append_left _ hx, hxk⟩
        · exact ⟨_, List.mem_append_right _ (List.mem_singleton.2 rfl), rfl⟩
      · rintro ⟨x, hx, hxk⟩
        rcases List.mem_append.1 hx with hx | hx
        · exact .inl ⟨x, hx, hxk⟩
        · rw [List.mem_singleton.1 hx] at hxk
          injection hxk with hxk
          exact .inr hxk.symm
  · rw [hf]
    simp only [cond_true]
    rw [nth_eq, hj]
    simp only
    rw [spine_eq, hsK_eq, setNth_eq]
    have hjl := (List.getElem?_eq_some_iff.1 hj).1
    refine hk _ ⟨_, _, getH_same _ _ _, ?_, fun t => ?_⟩
    · intro x hx
      rcases List.mem_or_eq_of_mem_set hx with hx | rfl
      · exact h2 x hx
      · exact ⟨trivial, rfl⟩
    · rw [Bool.or_eq_true, h3, decide_eq_true_eq]
      constructor
      · rintro (⟨x, hx, hxk⟩ | rfl)
        · obtain ⟨i, hi, rfl⟩ := List.getElem_of_mem hx
          by_cases hij : j = i
          · subst hij
            refine ⟨_, List.mem_set hjl _, ?_⟩
            rw [List.getElem?_eq_getElem hi] at hj
            injection hj with hj
            rw [← hj] at hke
            rw [hxk] at hke
            exact hke.symm
          · refine ⟨es[i], ?_, hxk⟩
            have : (es.set j { key := .string s, val := .bool true, born := e.born })[i]? = some es[i] := by
              rw [List.getElem?_set, if_neg hij, List.getElem?_eq_getElem hi]
            exact List.mem_of_getElem? this
        · exact ⟨_, List.mem_set hjl _, rfl⟩
      · rintro ⟨x, hx, hxk⟩
        rcases List.mem_or_eq_of_mem_set hx with hx | rfl
        · exact .inl ⟨x, hx, hxk⟩
        · injection hxk with hxk
          exact .inr hxk.symm

/-! Slices of structures. -/
theorem flat_get {α : Type} {f : α → List Value} {sz : Nat} (hf : ∀ a, (f a).length = sz) : ∀ {xs : List α} {i : Nat} {a : α}, xs[i]? = some a → ∀ (j : Nat) (v : Value), (f a)[j]? = some v → (xs.flatMap f)[i * sz + j]? = some v
  | [], i, a, h, j, v, _ => by simp at h
  | x :: xs, 0, a, h, j, v, hv => by
    simp at h; subst h
    have hj := (List.getElem?_eq_some_iff.1 hv).1
    rw [List.flatMap_cons, Nat.zero_mul, Nat.zero_add, List.getElem?_append_left hj]
    exact hv
  | x :: xs, i + 1, a, h, j, v, hv => by
    have ih := flat_get hf (xs := xs) (i := i) (a := a) (by simpa using h) j v hv
    have e : (i + 1) * sz + j = sz + (i * sz + j) := by rw [Nat.add_mul, Nat.one_mul]; omega
    rw [List.flatMap_cons, e, List.getElem?_append_right (by rw [hf]; omega), hf, Nat.add_sub_cancel_left]
    exact ih
theorem Sl.elem {α : Type} {f : α → List Value} {sz : Nat} {H : Heap} {nx : Nat} {A : Option Addr} {xs : List α} (h : Sl H nx A (xs.flatMap f)) (hf : ∀ a, (f a).length = sz) (h0 : 0 < sz) {i : Nat} {a : α} (hi : xs[i]? = some a) :
    ∃ b o row, A = some ⟨b, o, none⟩ ∧ b < nx ∧ rowOf H b = some row ∧ (∀ (j : Nat) (v : Value), (f a)[j]? = some v → row[o + i * sz + j]? = some v) ∧ ∀ k : VP, cellP row (o + i * sz) (some sz) k = k (.agg ⟨f a⟩) := by
  obtain ⟨v0, hv0⟩ : ∃ v, (f a)[0]? = some v := ⟨_, List.getElem?_eq_getElem (by rw [hf]; exact h0)⟩
  have g0 := flat_get hf hi 0 v0 hv0
  obtain ⟨b, o, row, h1, h2, h3, h4⟩ := h.open (List.getElem?_eq_some_iff.1 g0).1
  have hget : ∀ (j : Nat) (v : Value), (f a)[j]? = some v → row[o + i * sz + j]? = some v := fun j v hv => by
    have := h4 _ _ (flat_get hf hi j v hv)
    rw [← Nat.add_assoc] at this
    exact this
  exact ⟨b, o, row, h1, h2, h3, hget, fun k => cellP_list (hf a) hget k h0⟩
theorem cellP_lit4 (x y z u : Value) (k : VP) : cellP [x, y, z, u] 0 (some 4) k = k (.agg ⟨[x, y, z, u]⟩) := cellP_lit (l := [x, y, z, u]) k
theorem cellP_lit5 (x y z u v : Value) (k : VP) : cellP [x, y, z, u, v] 0 (some 5) k = k (.agg ⟨[x, y, z, u, v]⟩) := cellP_lit (l := [x, y, z, u, v]) k
theorem wLd_4 (b o : Nat) (H : Heap) (k : VP) : wLd (.pointer (some ⟨b, o, none⟩)) (some 4) H k = ldP (getH H b) o (some 4) k := wLd_some b o 3 H k
theorem wLd_5 (b o : Nat) (H : Heap) (k : VP) : wLd (.pointer (some ⟨b, o, none⟩)) (some 5) H k = ldP (getH H b) o (some 5) k := wLd_some b o 4 H k
end Go.Clo

set_option linter.unusedSimpArgs false
set_option linter.unusedVariables false
set_option linter.unusedSectionVars false
namespace Go.Clo

structure TermR where
  var : ByteArray
  kind : Int
  int : Int
  str : ByteArray
def termC (t : TermR) : List Value := [.string t.var, .int .i64 t.kind, .int .i64 t.int, .string t.str]
theorem termC_len (t : TermR) : (termC t).length = 4 := rfl
structure AtomR where
  neg : Bool
  rel : ByteArray
  TA : Option Addr
  tc : Nat
  terms : List TermR
def atomC (a : AtomR) : List Value := [.bool a.neg, .string a.rel, .slice a.TA a.terms.length a.tc]
theorem atomC_len (t : AtomR) : (atomC t).length = 3 := rfl
structure CondR where
  var : ByteArray
  op : Int
  kind : Int
  int : Int
  str : ByteArray
def condC (c : CondR) : List Value := [.string c.var, .int .i64 c.op, .int .i64 c.kind, .int .i64 c.int, .string c.str]
theorem condC_len (t : CondR) : (condC t).length = 5 := rfl
structure RuleR where
  AA : Option Addr
  ac : Nat
  atoms : List AtomR
  CA : Option Addr
  cc : Nat
  conds : List CondR
def ruleC (r : RuleR) : List Value := [.slice r.AA r.atoms.length r.ac, .slice r.CA r.conds.length r.cc]
theorem ruleC_len (t : RuleR) : (ruleC t).length = 2 := rfl
structure KeyR where
  var : ByteArray
  desc : Bool
def keyC (k : KeyR) : List Value := [.string k.var, .bool k.desc]
theorem keyC_len (t : KeyR) : (keyC t).length = 2 := rfl
structure QueryR where
  HA : Option Addr
  hc : Nat
  head : List ByteArray
  agg : Int
  aggvar : ByteArray
  RA : Option Addr
  rc : Nat
  rules : List RuleR
  OA : Option Addr
  oc : Nat
  order : List KeyR
def queryC (q : QueryR) : List Value := [.slice q.HA q.head.length q.hc, .int .i64 q.agg, .string q.aggvar, .slice q.RA q.rules.length q.rc, .slice q.OA q.order.length q.oc]

/-- A slice of an argument: its block is only read. -/
def HasR (H : Heap) (nx : Nat) (A : Option Addr) : Prop := A = none ∨ ∃ b o c, A = some ⟨b, o, none⟩ ∧ b < nx ∧ getH H b = some (.rom c)
theorem HasR.ext {H : Heap} {nx : Nat} {A : Option Addr} {H' : Heap} {nx' : Nat} (h : HasR H nx A) (e : Ext H nx H' nx') : HasR H' nx' A := by
  rcases h with h | ⟨b, o, c, h1, h2, h3⟩
  · exact .inl h
  · exact .inr ⟨b, o, c, h1, Nat.lt_of_lt_of_le h2 e.le, by rw [e.get b h2]; exact h3⟩
theorem HasR.has {H : Heap} {nx : Nat} {A : Option Addr} (h : HasR H nx A) : Has H nx A := by
  rcases h with h | ⟨b, o, c, h1, h2, h3⟩
  · exact .inl h
  · exact .inr ⟨b, o, c, h1, h2, by rw [rowOf, h3]; rfl⟩
theorem wSl_hi_rom {H : Heap} {b o n cap h : Nat} {c : List Value} (hg : getH H b = some (.rom c)) (hh : h ≤ cap) (k : VP) : wSl (.slice (some ⟨b, o, none⟩) n cap) 1 none (some (.int .i64 (h : Int))) none H k = k (.slice (some ⟨b, o, none⟩) h cap) := by
  have hb : boundA none cap = some cap := rfl
  have hh2 : hiA (some (.int .i64 (h : Int))) none n cap = some h := by
    show boundA (some (.int .i64 (h : Int))) cap = some h
    show (match (Value.int .i64 (Int.ofNat h)) with | .int _ (.ofNat i) => cond (Nat.ble i cap) (some i) none | _ => none) = _
    simp [bltrue hh]
  have e : sliceA (some ⟨b, o, none⟩) n cap 1 none (some (.int .i64 (h : Int))) none false = some (.slice (some ⟨b, o, none⟩) h cap) := by
    simp only [sliceA, hb, hh2]
    show cond ((false && (none : Option Value).isNone && Nat.beq cap 0 && !(Nat.beq 0 0)) || !(Nat.ble 0 cap)) none (some (Value.slice (some (cond (Nat.beq cap 0) ⟨b, o, none⟩ ⟨b, o + 0 * 1, none⟩)) (h - 0) (cap - 0))) = _
    rw [bltrue (Nat.zero_le cap)]
    cases Nat.beq cap 0 <;> rfl
  unfold wSl
  dsimp only
  rw [getB_eq, hg]
  simp only [Option.elim_some, slB]
  rw [show looseA (.rom c) o cap 1 = some false from rfl]
  simp only [e, force1_eq]

def AtomOK (H : Heap) (nx : Nat) (a : AtomR) : Prop := Sl H nx a.TA (a.terms.flatMap termC)
structure RuleOK (H : Heap) (nx : Nat) (r : RuleR) : Prop where
  atoms : Sl H nx r.AA (r.atoms.flatMap atomC)
  terms : ∀ a ∈ r.atoms, AtomOK H nx a
  conds : Sl H nx r.CA (r.conds.flatMap condC)
structure QueryOK (H : Heap) (nx : Nat) (q : QueryR) : Prop where
  head : Sl H nx q.HA (strs q.head)
  headH : HasR H nx q.HA
  hcap : q.head.length ≤ q.hc
  hnil : q.HA = none → q.hc = 0
  rules : Sl H nx q.RA (q.rules.flatMap ruleC)
  rule : ∀ r ∈ q.rules, RuleOK H nx r
  order : Sl H nx q.OA (q.order.flatMap keyC)
  orderH : Has H nx q.OA
theorem AtomOK.ext {H : Heap} {nx : Nat} {a : AtomR} {H' : Heap} {nx' : Nat} (h : AtomOK H nx a) (e : Ext H nx H' nx') : AtomOK H' nx' a := Sl.ext h e
theorem RuleOK.ext {H : Heap} {nx : Nat} {r : RuleR} {H' : Heap} {nx' : Nat} (h : RuleOK H nx r) (e : Ext H nx H' nx') : RuleOK H' nx' r := ⟨h.atoms.ext e, fun a ha => (h.terms a ha).ext e, h.conds.ext e⟩
theorem QueryOK.ext {H : Heap} {nx : Nat} {q : QueryR} {H' : Heap} {nx' : Nat} (h : QueryOK H nx q) (e : Ext H nx H' nx') : QueryOK H' nx' q := ⟨h.head.ext e, h.headH.ext e, h.hcap, h.hnil, h.rules.ext e, fun r hr => (h.rule r hr).ext e, h.order.ext e, h.orderH.ext e⟩
end Go.Clo

set_option linter.unusedSimpArgs false
set_option linter.unusedVariables false
set_option linter.unusedSectionVars false
namespace Go.Proofs.YthbdeaeghipliaaGreatDoor
open Go.Clo
theorem mixed : Tryz.prog.follows .mixedOrders = true := by kernel_rfl
theorem names_ok : (Tryz.prog.funcs.toList.all fun f => !(f.name == "runtime.NumGoroutine")) = true := by kernel_rfl
theorem namesOK : NamesOK Tryz.prog := by
  intro f fn hf
  have h1 := List.all_eq_true.1 names_ok fn (List.mem_of_getElem? (by simpa using hf))
  cases hx : (fn.name == "runtime.NumGoroutine") with
  | false => rfl
  | true => rw [hx] at h1; cases h1
end Go.Proofs.YthbdeaeghipliaaGreatDoor

set_option linter.unusedSimpArgs false
set_option linter.unusedVariables false
set_option linter.unusedSectionVars false
namespace Go.Proofs.YthbdeaeghipliaaGreatDoor
open Go.Clo
set_option maxRecDepth 100000
/-! 129: ordinal/ordinalref56.letter -/
def d129 : D :=
  (.seq
    (.ops [
        (none, [⟨none, some 2, .p (.mv (.c (.bool false)))⟩])] (.one .nil))
    (.seq
      (.ops [
          (none, [⟨none, some 3, .p (.mv (.s 0))⟩,
          ⟨none, some 4, .p (.bin .geq (.s 3) (.c (.int .u8 65)))⟩,
          ⟨none, some 5, .p (.mv (.s 4))⟩]),
          (some (5, true), [⟨none, some 6, .p (.mv (.s 0))⟩,
          ⟨none, some 7, .p (.bin .leq (.s 6) (.c (.int .u8 90)))⟩]),
          (none, [⟨none, some 8, .p (.pick (.s 5) (.s 7) (.c (.bool false)))⟩,
          ⟨none, some 9, .p (.mv (.s 8))⟩]),
          (some (9, false), [⟨none, some 10, .p (.mv (.s 0))⟩,
          ⟨none, some 11, .p (.bin .geq (.s 10) (.c (.int .u8 97)))⟩,
          ⟨none, some 12, .p (.mv (.s 11))⟩]),
          (some (12, true), [⟨none, some 13, .p (.mv (.s 0))⟩,
          ⟨none, some 14, .p (.bin .leq (.s 13) (.c (.int .u8 122)))⟩]),
          (some (9, false), [⟨none, some 15, .p (.pick (.s 12) (.s 14) (.c (.bool false)))⟩]),
          (none, [⟨none, some 16, .p (.pick (.s 9) (.c (.bool true)) (.s 15))⟩,
          ⟨none, some 2, .p (.mv (.s 16))⟩])] (.one (.tst (.one (.tst (.tst (.one (.one .nil)) (.one (.one .nil))) (.one (.one (.one .nil))))) (.one (.one (.tst (.one (.one .nil)) (.one (.one .nil))))))))
      .ret))
theorem cfn129 : cfn Tryz.prog 129 = some ⟨17, 5, d129.erase, [(.s 2, none)]⟩ := by kernel_rfl
theorem ok129 : d129.ok 17 5 = true := by kernel_rfl
noncomputable def F129 (a0 : Value) (H : Heap) (nx : Nat) (k : EP) : Prop :=
  wBin .geq a0 (.int .u8 65) fun t4_1 =>
  wGuard true t4_1 (
    wBin .leq a0 (.int .u8 90) fun t7_2 =>
    wGuard false t7_2 (
      wBin .geq a0 (.int .u8 97) fun t11_3 =>
      wGuard true t11_3 (
        wBin .leq a0 (.int .u8 122) fun t14_4 =>
          forceV t14_4 fun tv_5 => k tv_5 H nx) (
          forceV (.bool false) fun tv_6 => k tv_6 H nx)) (
          forceV (.bool true) fun tv_7 => k tv_7 H nx)) (
      wBin .geq a0 (.int .u8 97) fun t11_8 =>
      wGuard true t11_8 (
        wBin .leq a0 (.int .u8 122) fun t14_9 =>
          forceV t14_9 fun tv_10 => k tv_10 H nx) (
          forceV (.bool false) fun tv_11 => k tv_11 H nx))
theorem eq129 (a0 : Value) (H : Heap) (nx : Nat) (k : EP) : wBody Tryz.prog 17 5 d129 [(.s 2, none)] [a0] H nx k = F129 a0 H nx k := by kernel_rfl
theorem spec129 {a0 : Value} {H : Heap} {nx : Nat} {k : EP} (h : F129 a0 H nx k) : Ans Tryz.prog 129 [a0] H nx k :=
  spec_of_body mixed namesOK cfn129 ok129 (by simp) ((eq129 a0 H nx k).symm ▸ h)

/-! 107: ordinal/ordinalref56.plain -/
def d107 : D :=
  (.seq
    (.ops [
        (none, [⟨none, some 2, .p (.mv (.c (.bool false)))⟩])] (.one .nil))
    (.seq
      (.join [17] [4, 5, 6, 7, 8, 9, 10, 11, 12, 13, 14, 15, 16]
        (.ops [
            (none, [⟨none, some 4, .p (.mv (.s 0))⟩,
            ⟨none, some 5, .r (.len (.s 4) 1)⟩,
            ⟨none, some 6, .p (.bin .lss (.s 5) (.c (.int .i64 1)))⟩,
            ⟨none, some 7, .p (.mv (.s 6))⟩]),
            (some (7, false), [⟨none, some 8, .p (.mv (.s 0))⟩,
            ⟨none, some 9, .r (.len (.s 8) 1)⟩,
            ⟨none, some 10, .p (.bin .gtr (.s 9) (.c (.int .i64 16)))⟩]),
            (none, [⟨none, some 11, .p (.pick (.s 7) (.c (.bool true)) (.s 10))⟩,
            ⟨none, some 12, .p (.mv (.s 11))⟩]),
            (some (12, false), [⟨none, some 13, .p (.mv (.s 0))⟩,
            ⟨none, some 14, .p (.vf .sidx [.s 13, .c (.int .i64 0)])⟩,
            ⟨none, some 15, .e (.call (.c (.func (.func 129) ⟨[]⟩ ⟨[]⟩)) [.s 14])⟩,
            ⟨none, some 16, .p (.un .not (.s 15))⟩]),
            (none, [⟨none, some 17, .p (.pick (.s 12) (.c (.bool true)) (.s 16))⟩])] (.one (.tst (.one (.tst (.one .nil) (.one .nil))) (.one (.one (.one .nil))))))
        (.cond (.s 17)
          (.seq
            (.ops [
                (none, [⟨none, some 2, .p (.mv (.c (.bool false)))⟩])] (.one .nil))
            .ret)
          .skip))
      (.seq
        (.seq
          (.ops [
              (none, [⟨none, some 3, .p (.mv (.c (.int .i64 1)))⟩])] (.one .nil))
          (.block 0
            (.loop [3] [2, 18, 19, 20, 21, 22, 23, 24, 25, 26, 27, 28, 29, 30, 31, 32, 33, 34, 35, 36, 37, 38, 39, 40, 41, 42, 43, 44, 45, 46, 47]
              (.seq
                (.seq
                  (.ops [
                      (none, [⟨none, some 18, .p (.mv (.s 3))⟩,
                      ⟨none, some 19, .p (.mv (.s 0))⟩,
                      ⟨none, some 20, .r (.len (.s 19) 1)⟩,
                      ⟨none, some 21, .p (.bin .lss (.s 18) (.s 20))⟩])] (.one .nil))
                  (.cond (.s 21)
                    .skip
                    (.exit 0)))
                (.seq
                  (.block 1
                    (.join [47] [24, 25, 26, 27, 28, 29, 30, 31, 32, 33, 34, 35, 36, 37, 38, 39, 40, 41, 42, 43, 44, 45, 46]
                      (.ops [
                          (none, [⟨none, some 24, .p (.mv (.s 0))⟩,
                          ⟨none, some 25, .p (.mv (.s 3))⟩,
                          ⟨none, some 26, .p (.vf .sidx [.s 24, .s 25])⟩,
                          ⟨none, some 27, .e (.call (.c (.func (.func 129) ⟨[]⟩ ⟨[]⟩)) [.s 26])⟩,
                          ⟨none, some 28, .p (.un .not (.s 27))⟩,
                          ⟨none, some 29, .p (.mv (.s 28))⟩]),
                          (some (29, true), [⟨none, some 30, .p (.mv (.s 0))⟩,
                          ⟨none, some 31, .p (.mv (.s 3))⟩,
                          ⟨none, some 32, .p (.vf .sidx [.s 30, .s 31])⟩,
                          ⟨none, some 33, .p (.bin .geq (.s 32) (.c (.int .u8 48)))⟩,
                          ⟨none, some 34, .p (.mv (.s 33))⟩]),
                          (some (34, true), [⟨none, some 35, .p (.mv (.s 0))⟩,
                          ⟨none, some 36, .p (.mv (.s 3))⟩,
                          ⟨none, some 37, .p (.vf .sidx [.s 35, .s 36])⟩,
                          ⟨none, some 38, .p (.bin .leq (.s 37) (.c (.int .u8 57)))⟩]),
                          (some (29, true), [⟨none, some 39, .p (.pick (.s 34) (.s 38) (.c (.bool false)))⟩,
                          ⟨none, some 40, .p (.un .not (.s 39))⟩]),
                          (none, [⟨none, some 41, .p (.pick (.s 29) (.s 40) (.c (.bool false)))⟩,
                          ⟨none, some 42, .p (.mv (.s 41))⟩]),
                          (some (42, true), [⟨none, some 43, .p (.mv (.s 0))⟩,
                          ⟨none, some 44, .p (.mv (.s 3))⟩,
                          ⟨none, some 45, .p (.vf .sidx [.s 43, .s 44])⟩,
                          ⟨none, some 46, .p (.bin .neq (.s 45) (.c (.int .u8 95)))⟩]),
                          (none, [⟨none, some 47, .p (.pick (.s 42) (.s 46) (.c (.bool false)))⟩])] (.one (.tst (.tst (.one (.one (.tst (.one .nil) (.one .nil)))) (.one (.one (.tst (.one .nil) (.one .nil))))) (.one (.one (.one (.one (.one .nil))))))))
                      (.cond (.s 47)
                        (.seq
                          (.ops [
                              (none, [⟨none, some 2, .p (.mv (.c (.bool false)))⟩])] (.one .nil))
                          .ret)
                        .skip)))
                  (.ops [
                      (none, [⟨none, some 22, .p (.mv (.s 3))⟩,
                      ⟨none, some 23, .p (.bin .add (.s 22) (.c (.int .i64 1)))⟩,
                      ⟨none, some 3, .p (.mv (.s 23))⟩])] (.one .nil)))))))
        (.seq
          (.ops [
              (none, [⟨none, some 2, .p (.mv (.c (.bool true)))⟩])] (.one .nil))
          .ret))))
theorem cfn107 : cfn Tryz.prog 107 = some ⟨48, 6, d107.erase, [(.s 2, none)]⟩ := by kernel_rfl
theorem ok107 : d107.ok 48 6 = true := by kernel_rfl
noncomputable def F107 (a0 : Value) (H : Heap) (nx : Nat) (k : EP) : Prop :=
  wJoin (fun tj_1 =>
    wLen a0 1 H fun t5_3 =>
    wBin .lss t5_3 (.int .i64 1) fun t6_4 =>
    wGuard false t6_4 (
      wLen a0 1 H fun t9_5 =>
      wBin .gtr t9_5 (.int .i64 16) fun t10_6 =>
      wGuard false t10_6 (
        wVf .sidx [a0, (.int .i64 0)] fun t14_7 =>
        wCall Tryz.prog 129 [t14_7] H nx fun t15_8 H2 nx2 =>
        wUn .not t15_8 fun t16_9 =>
        tj_1 [t16_9] H2 nx2) (
        tj_1 [(.bool true)] H nx)) (
        tj_1 [(.bool true)] H nx)) (fun tL_2 H1 nx1 =>
    wIf (tL_2.getD 0 undef) (
      forceV (.bool false) fun tv_10 => k tv_10 H1 nx1) (
      wLoop (fun tih_11 tL_12 H3 nx3 =>
        wLen a0 1 H3 fun t20_13 =>
        wBin .lss (tL_12.getD 0 undef) t20_13 fun t21_14 =>
        wIf t21_14 (
          wJoin (fun tj_15 =>
            wVf .sidx [a0, (tL_12.getD 0 undef)] fun t26_17 =>
            wCall Tryz.prog 129 [t26_17] H3 nx3 fun t27_18 H5 nx5 =>
            wUn .not t27_18 fun t28_19 =>
            wGuard true t28_19 (
              wVf .sidx [a0, (tL_12.getD 0 undef)] fun t32_20 =>
              wBin .geq t32_20 (.int .u8 48) fun t33_21 =>
              wGuard true t33_21 (
                wVf .sidx [a0, (tL_12.getD 0 undef)] fun t37_22 =>
                wBin .leq t37_22 (.int .u8 57) fun t38_23 =>
                  wUn .not t38_23 fun t40_24 =>
                  wGuard true t40_24 (
                    wVf .sidx [a0, (tL_12.getD 0 undef)] fun t45_25 =>
                    wBin .neq t45_25 (.int .u8 95) fun t46_26 =>
                    tj_15 [t46_26] H5 nx5) (
                    tj_15 [(.bool false)] H5 nx5)) (
                  wUn .not (.bool false) fun t40_27 =>
                  wGuard true t40_27 (
                    wVf .sidx [a0, (tL_12.getD 0 undef)] fun t45_28 =>
                    wBin .neq t45_28 (.int .u8 95) fun t46_29 =>
                    tj_15 [t46_29] H5 nx5) (
                    tj_15 [(.bool false)] H5 nx5))) (
                    tj_15 [(.bool false)] H5 nx5)) (fun tL_16 H4 nx4 =>
            wIf (tL_16.getD 0 undef) (
              forceV (.bool false) fun tv_30 => k tv_30 H4 nx4) (
              wBin .add (tL_12.getD 0 undef) (.int .i64 1) fun t23_31 =>
              tih_11 [t23_31] H4 nx4))) (
          forceV (.bool true) fun tv_32 => k tv_32 H3 nx3)) [(.int .i64 1)] H1 nx1))
theorem eq107 (a0 : Value) (H : Heap) (nx : Nat) (k : EP) : wBody Tryz.prog 48 6 d107 [(.s 2, none)] [a0] H nx k = F107 a0 H nx k := by kernel_rfl
theorem spec107 {a0 : Value} {H : Heap} {nx : Nat} {k : EP} (h : F107 a0 H nx k) : Ans Tryz.prog 107 [a0] H nx k :=
  spec_of_body mixed namesOK cfn107 ok107 (by simp) ((eq107 a0 H nx k).symm ▸ h)

/-! 78: ordinal/ordinalref56.Valid -/
def d78 : D :=
  (.seq
    (.ops [
        (none, [⟨none, some 2, .p (.mv (.c (.bool false)))⟩])] (.one .nil))
    (.seq
      (.ops [
          (none, [⟨none, some 4, .p (.mv (.s 0))⟩,
          ⟨none, some 5, .r (.len (.s 4) 1)⟩,
          ⟨none, some 3, .p (.mv (.s 5))⟩])] (.one .nil))
      (.join [0] [6, 7, 8, 9, 10, 11, 12, 13, 14, 15, 16, 17, 18, 19, 20, 21, 22, 23, 24, 25, 26, 27, 28, 29, 30, 31, 32]
        (.join [28] [6, 7, 8, 9, 10, 11, 12, 13, 14, 15, 16, 17, 18, 19, 20, 21, 22, 23, 24, 25, 26, 27]
          (.ops [
              (none, [⟨none, some 6, .p (.mv (.s 3))⟩,
              ⟨none, some 7, .p (.bin .gtr (.s 6) (.c (.int .i64 2)))⟩,
              ⟨none, some 8, .p (.mv (.s 7))⟩]),
              (some (8, true), [⟨none, some 9, .p (.mv (.s 0))⟩,
              ⟨none, some 10, .p (.mv (.s 3))⟩,
              ⟨none, some 11, .p (.bin .sub (.s 10) (.c (.int .i64 2)))⟩,
              ⟨none, some 12, .p (.vf .sidx [.s 9, .s 11])⟩,
              ⟨none, some 13, .p (.bin .eql (.s 12) (.c (.int .u8 46)))⟩]),
              (none, [⟨none, some 14, .p (.pick (.s 8) (.s 13) (.c (.bool false)))⟩,
              ⟨none, some 15, .p (.mv (.s 14))⟩]),
              (some (15, true), [⟨none, some 16, .p (.mv (.s 0))⟩,
              ⟨none, some 17, .p (.mv (.s 3))⟩,
              ⟨none, some 18, .p (.bin .sub (.s 17) (.c (.int .i64 1)))⟩,
              ⟨none, some 19, .p (.vf .sidx [.s 16, .s 18])⟩,
              ⟨none, some 20, .p (.bin .geq (.s 19) (.c (.int .u8 49)))⟩]),
              (none, [⟨none, some 21, .p (.pick (.s 15) (.s 20) (.c (.bool false)))⟩,
              ⟨none, some 22, .p (.mv (.s 21))⟩]),
              (some (22, true), [⟨none, some 23, .p (.mv (.s 0))⟩,
              ⟨none, some 24, .p (.mv (.s 3))⟩,
              ⟨none, some 25, .p (.bin .sub (.s 24) (.c (.int .i64 1)))⟩,
              ⟨none, some 26, .p (.vf .sidx [.s 23, .s 25])⟩,
              ⟨none, some 27, .p (.bin .leq (.s 26) (.c (.int .u8 51)))⟩]),
              (none, [⟨none, some 28, .p (.pick (.s 22) (.s 27) (.c (.bool false)))⟩])] (.one (.tst (.one (.tst (.one (.tst (.one .nil) (.one .nil))) (.one (.one (.one .nil))))) (.one (.one (.one (.one (.one .nil))))))))
          (.cond (.s 28)
            (.ops [
                (none, [⟨none, some 29, .p (.mv (.s 0))⟩,
                ⟨none, some 30, .p (.mv (.s 3))⟩,
                ⟨none, some 31, .p (.bin .sub (.s 30) (.c (.int .i64 2)))⟩,
                ⟨none, some 32, .p (.vf (.ssl false true) [.s 29, .s 31])⟩,
                ⟨none, some 0, .p (.mv (.s 32))⟩])] (.one .nil))
            .skip))
        (.seq
          (.ops [
              (none, [⟨none, some 33, .p (.mv (.s 0))⟩,
              ⟨none, some 34, .e (.call (.c (.func (.func 107) ⟨[]⟩ ⟨[]⟩)) [.s 33])⟩,
              ⟨none, some 2, .p (.mv (.s 34))⟩])] (.one .nil))
          .ret))))
theorem cfn78 : cfn Tryz.prog 78 = some ⟨35, 6, d78.erase, [(.s 2, none)]⟩ := by kernel_rfl
theorem ok78 : d78.ok 35 6 = true := by kernel_rfl
noncomputable def F78 (a0 : Value) (H : Heap) (nx : Nat) (k : EP) : Prop :=
  wLen a0 1 H fun t5_1 =>
  wJoin (fun tj_2 =>
    wJoin (fun tj_4 =>
      wBin .gtr t5_1 (.int .i64 2) fun t7_6 =>
      wGuard true t7_6 (
        wBin .sub t5_1 (.int .i64 2) fun t11_7 =>
        wVf .sidx [a0, t11_7] fun t12_8 =>
        wBin .eql t12_8 (.int .u8 46) fun t13_9 =>
        wGuard true t13_9 (
          wBin .sub t5_1 (.int .i64 1) fun t18_10 =>
          wVf .sidx [a0, t18_10] fun t19_11 =>
          wBin .geq t19_11 (.int .u8 49) fun t20_12 =>
          wGuard true t20_12 (
            wBin .sub t5_1 (.int .i64 1) fun t25_13 =>
            wVf .sidx [a0, t25_13] fun t26_14 =>
            wBin .leq t26_14 (.int .u8 51) fun t27_15 =>
            tj_4 [t27_15] H nx) (
            tj_4 [(.bool false)] H nx)) (
            tj_4 [(.bool false)] H nx)) (
            tj_4 [(.bool false)] H nx)) (fun tL_5 H2 nx2 =>
      wIf (tL_5.getD 0 undef) (
        wBin .sub t5_1 (.int .i64 2) fun t31_16 =>
        wVf (.ssl false true) [a0, t31_16] fun t32_17 =>
        tj_2 [t32_17] H2 nx2) (
        tj_2 [a0] H2 nx2))) (fun tL_3 H1 nx1 =>
    wCall Tryz.prog 107 [(tL_3.getD 0 undef)] H1 nx1 fun t34_18 H3 nx3 =>
    forceV t34_18 fun tv_19 => k tv_19 H3 nx3)
theorem eq78 (a0 : Value) (H : Heap) (nx : Nat) (k : EP) : wBody Tryz.prog 35 6 d78 [(.s 2, none)] [a0] H nx k = F78 a0 H nx k := by kernel_rfl
theorem spec78 {a0 : Value} {H : Heap} {nx : Nat} {k : EP} (h : F78 a0 H nx k) : Ans Tryz.prog 78 [a0] H nx k :=
  spec_of_body mixed namesOK cfn78 ok78 (by simp) ((eq78 a0 H nx k).symm ▸ h)

/-! 93: ordinal/catalog.Valid -/
def d93 : D :=
  (.seq
    (.ops [
        (none, [⟨none, some 2, .p (.mv (.c (.bool false)))⟩])] (.one .nil))
    (.seq
      (.join [12] [6, 7, 8, 9, 10, 11]
        (.ops [
            (none, [⟨none, some 6, .p (.mv (.s 0))⟩,
            ⟨none, some 7, .p (.bin .eql (.s 6) (.c (.string ⟨#[]⟩)))⟩,
            ⟨none, some 8, .p (.mv (.s 7))⟩]),
            (some (8, false), [⟨none, some 9, .p (.mv (.s 0))⟩,
            ⟨none, some 10, .r (.len (.s 9) 1)⟩,
            ⟨none, some 11, .p (.bin .gtr (.s 10) (.c (.int .i64 16)))⟩]),
            (none, [⟨none, some 12, .p (.pick (.s 8) (.c (.bool true)) (.s 11))⟩])] (.one (.tst (.one .nil) (.one .nil))))
        (.cond (.s 12)
          (.seq
            (.ops [
                (none, [⟨none, some 2, .p (.mv (.c (.bool false)))⟩])] (.one .nil))
            .ret)
          .skip))
      (.seq
        (.seq
          (.ops [
              (none, [⟨none, some 13, .p (.mv (.s 0))⟩,
              ⟨none, some 14, .r (.len (.s 13) 1)⟩,
              ⟨none, some 15, .p (.mv (.c (.int .i64 0)))⟩])] (.one .nil))
          (.block 0
            (.loop [15] [2, 3, 4, 5, 16, 17, 18, 19, 20, 21, 22, 23, 24, 25, 26, 27, 28, 29, 30, 31, 32, 33, 34, 35, 36, 37, 38, 39, 40, 41, 42, 43, 44, 45, 46, 47, 48, 49, 50, 51, 52, 53]
              (.seq
                (.ops [
                    (none, [⟨none, some 16, .p (.bin .lss (.s 15) (.s 14))⟩])] (.one .nil))
                (.seq
                  (.cond (.s 16)
                    .skip
                    (.exit 0))
                  (.seq
                    (.block 1
                      (.seq
                        (.ops [
                            (none, [⟨none, some 17, .p (.mv (.s 15))⟩,
                            ⟨none, some 3, .p (.mv (.s 17))⟩])] (.one .nil))
                        (.seq
                          (.ops [
                              (none, [⟨none, some 18, .p (.mv (.s 0))⟩,
                              ⟨none, some 19, .p (.mv (.s 3))⟩,
                              ⟨none, some 20, .p (.vf .sidx [.s 18, .s 19])⟩,
                              ⟨none, some 4, .p (.mv (.s 20))⟩])] (.one .nil))
                          (.join [5] [21, 22, 23, 24, 25, 26, 27, 28, 29, 30, 31, 32, 33, 34]
                            (.ops [
                                (none, [⟨none, some 21, .p (.mv (.s 4))⟩,
                                ⟨none, some 22, .p (.bin .geq (.s 21) (.c (.int .u8 97)))⟩,
                                ⟨none, some 23, .p (.mv (.s 22))⟩]),
                                (some (23, true), [⟨none, some 24, .p (.mv (.s 4))⟩,
                                ⟨none, some 25, .p (.bin .leq (.s 24) (.c (.int .u8 122)))⟩]),
                                (none, [⟨none, some 26, .p (.pick (.s 23) (.s 25) (.c (.bool false)))⟩,
                                ⟨none, some 27, .p (.mv (.s 26))⟩]),
                                (some (27, false), [⟨none, some 28, .p (.mv (.s 4))⟩,
                                ⟨none, some 29, .p (.bin .geq (.s 28) (.c (.int .u8 65)))⟩,
                                ⟨none, some 30, .p (.mv (.s 29))⟩]),
                                (some (30, true), [⟨none, some 31, .p (.mv (.s 4))⟩,
                                ⟨none, some 32, .p (.bin .leq (.s 31) (.c (.int .u8 90)))⟩]),
                                (some (27, false), [⟨none, some 33, .p (.pick (.s 30) (.s 32) (.c (.bool false)))⟩]),
                                (none, [⟨none, some 34, .p (.pick (.s 27) (.c (.bool true)) (.s 33))⟩,
                                ⟨none, some 5, .p (.mv (.s 34))⟩])] (.one (.tst (.one (.tst (.tst (.one (.one .nil)) (.one (.one .nil))) (.one (.one (.one .nil))))) (.one (.one (.tst (.one (.one .nil)) (.one (.one .nil))))))))
                            (.join [52] [35, 36, 37, 38, 39, 40, 41, 42, 43, 44, 45, 46, 47, 48, 49, 50, 51]
                              (.ops [
                                  (none, [⟨none, some 35, .p (.mv (.s 5))⟩,
                                  ⟨none, some 36, .p (.un .not (.s 35))⟩,
                                  ⟨none, some 37, .p (.mv (.s 36))⟩]),
                                  (some (37, true), [⟨none, some 38, .p (.mv (.s 3))⟩,
                                  ⟨none, some 39, .p (.bin .eql (.s 38) (.c (.int .i64 0)))⟩,
                                  ⟨none, some 40, .p (.mv (.s 39))⟩]),
                                  (some (40, false), [⟨none, some 41, .p (.mv (.s 4))⟩,
                                  ⟨none, some 42, .p (.bin .neq (.s 41) (.c (.int .u8 95)))⟩,
                                  ⟨none, some 43, .p (.mv (.s 42))⟩]),
                                  (some (43, true), [⟨none, some 44, .p (.mv (.s 4))⟩,
                                  ⟨none, some 45, .p (.bin .lss (.s 44) (.c (.int .u8 48)))⟩,
                                  ⟨none, some 46, .p (.mv (.s 45))⟩]),
                                  (some (46, false), [⟨none, some 47, .p (.mv (.s 4))⟩,
                                  ⟨none, some 48, .p (.bin .gtr (.s 47) (.c (.int .u8 57)))⟩]),
                                  (some (43, true), [⟨none, some 49, .p (.pick (.s 46) (.c (.bool true)) (.s 48))⟩]),
                                  (some (40, false), [⟨none, some 50, .p (.pick (.s 43) (.s 49) (.c (.bool false)))⟩]),
                                  (some (37, true), [⟨none, some 51, .p (.pick (.s 40) (.c (.bool true)) (.s 50))⟩]),
                                  (none, [⟨none, some 52, .p (.pick (.s 37) (.s 51) (.c (.bool false)))⟩])] (.one (.tst (.tst (.tst (.tst (.one (.one (.one (.one .nil)))) (.one (.one (.one (.one .nil))))) (.one (.one (.one (.one (.one .nil)))))) (.one (.one (.one (.one (.one (.one .nil))))))) (.one (.one (.one (.one (.one (.one (.one .nil))))))))))
                              (.cond (.s 52)
                                (.seq
                                  (.ops [
                                      (none, [⟨none, some 2, .p (.mv (.c (.bool false)))⟩])] (.one .nil))
                                  .ret)
                                .skip))))))
                    (.ops [
                        (none, [⟨none, some 53, .p (.bin .add (.s 15) (.c (.int .i64 1)))⟩,
                        ⟨none, some 15, .p (.mv (.s 53))⟩])] (.one .nil))))))))
        (.seq
          (.ops [
              (none, [⟨none, some 2, .p (.mv (.c (.bool true)))⟩])] (.one .nil))
          .ret))))
theorem cfn93 : cfn Tryz.prog 93 = some ⟨54, 6, d93.erase, [(.s 2, none)]⟩ := by kernel_rfl
theorem ok93 : d93.ok 54 6 = true := by kernel_rfl
noncomputable def F93 (a0 : Value) (H : Heap) (nx : Nat) (k : EP) : Prop :=
  wJoin (fun tj_1 =>
    wBin .eql a0 (.string ⟨#[]⟩) fun t7_3 =>
    wGuard false t7_3 (
      wLen a0 1 H fun t10_4 =>
      wBin .gtr t10_4 (.int .i64 16) fun t11_5 =>
      tj_1 [t11_5] H nx) (
      tj_1 [(.bool true)] H nx)) (fun tL_2 H1 nx1 =>
    wIf (tL_2.getD 0 undef) (
      forceV (.bool false) fun tv_6 => k tv_6 H1 nx1) (
      wLen a0 1 H1 fun t14_7 =>
      wLoop (fun tih_8 tL_9 H2 nx2 =>
        wBin .lss (tL_9.getD 0 undef) t14_7 fun t16_10 =>
        wIf t16_10 (
          wVf .sidx [a0, (tL_9.getD 0 undef)] fun t20_11 =>
          wJoin (fun tj_12 =>
            wBin .geq t20_11 (.int .u8 97) fun t22_14 =>
            wGuard true t22_14 (
              wBin .leq t20_11 (.int .u8 122) fun t25_15 =>
              wGuard false t25_15 (
                wBin .geq t20_11 (.int .u8 65) fun t29_16 =>
                wGuard true t29_16 (
                  wBin .leq t20_11 (.int .u8 90) fun t32_17 =>
                    tj_12 [t32_17] H2 nx2) (
                    tj_12 [(.bool false)] H2 nx2)) (
                    tj_12 [(.bool true)] H2 nx2)) (
                wBin .geq t20_11 (.int .u8 65) fun t29_18 =>
                wGuard true t29_18 (
                  wBin .leq t20_11 (.int .u8 90) fun t32_19 =>
                    tj_12 [t32_19] H2 nx2) (
                    tj_12 [(.bool false)] H2 nx2))) (fun tL_13 H3 nx3 =>
            wJoin (fun tj_20 =>
              wUn .not (tL_13.getD 0 undef) fun t36_22 =>
              wGuard true t36_22 (
                wBin .eql (tL_9.getD 0 undef) (.int .i64 0) fun t39_23 =>
                wGuard false t39_23 (
                  wBin .neq t20_11 (.int .u8 95) fun t42_24 =>
                  wGuard true t42_24 (
                    wBin .lss t20_11 (.int .u8 48) fun t45_25 =>
                    wGuard false t45_25 (
                      wBin .gtr t20_11 (.int .u8 57) fun t48_26 =>
                            tj_20 [t48_26] H3 nx3) (
                            tj_20 [(.bool true)] H3 nx3)) (
                            tj_20 [(.bool false)] H3 nx3)) (
                            tj_20 [(.bool true)] H3 nx3)) (
                            tj_20 [(.bool false)] H3 nx3)) (fun tL_21 H4 nx4 =>
              wIf (tL_21.getD 0 undef) (
                forceV (.bool false) fun tv_27 => k tv_27 H4 nx4) (
                wBin .add (tL_9.getD 0 undef) (.int .i64 1) fun t53_28 =>
                tih_8 [t53_28] H4 nx4)))) (
          forceV (.bool true) fun tv_29 => k tv_29 H2 nx2)) [(.int .i64 0)] H1 nx1))
theorem eq93 (a0 : Value) (H : Heap) (nx : Nat) (k : EP) : wBody Tryz.prog 54 6 d93 [(.s 2, none)] [a0] H nx k = F93 a0 H nx k := by kernel_rfl
theorem spec93 {a0 : Value} {H : Heap} {nx : Nat} {k : EP} (h : F93 a0 H nx k) : Ans Tryz.prog 93 [a0] H nx k :=
  spec_of_body mixed namesOK cfn93 ok93 (by simp) ((eq93 a0 H nx k).symm ▸ h)

/-! 64: ordinal/explain.valid -/
def d64 : D :=
  (.seq
    (.ops [
        (none, [⟨none, some 2, .p (.mv (.c (.bool false)))⟩])] (.one .nil))
    (.join [0] [3, 4, 5, 6, 7, 8, 9, 10, 11, 12, 13, 14, 15, 16, 17, 18, 19, 20, 21, 22, 23, 24, 25, 26, 27, 28, 29, 30, 31]
      (.seq
        (.ops [
            (none, [⟨none, some 4, .p (.mv (.s 0))⟩,
            ⟨none, some 5, .r (.len (.s 4) 1)⟩,
            ⟨none, some 6, .p (.bin .sub (.s 5) (.c (.int .i64 2)))⟩,
            ⟨none, some 3, .p (.mv (.s 6))⟩])] (.one .nil))
        (.join [28] [7, 8, 9, 10, 11, 12, 13, 14, 15, 16, 17, 18, 19, 20, 21, 22, 23, 24, 25, 26, 27]
          (.ops [
              (none, [⟨none, some 7, .p (.mv (.s 3))⟩,
              ⟨none, some 8, .p (.bin .gtr (.s 7) (.c (.int .i64 0)))⟩,
              ⟨none, some 9, .p (.mv (.s 8))⟩]),
              (some (9, true), [⟨none, some 10, .p (.mv (.s 0))⟩,
              ⟨none, some 11, .p (.mv (.s 3))⟩,
              ⟨none, some 12, .p (.vf .sidx [.s 10, .s 11])⟩,
              ⟨none, some 13, .p (.bin .eql (.s 12) (.c (.int .u8 46)))⟩]),
              (none, [⟨none, some 14, .p (.pick (.s 9) (.s 13) (.c (.bool false)))⟩,
              ⟨none, some 15, .p (.mv (.s 14))⟩]),
              (some (15, true), [⟨none, some 16, .p (.mv (.s 0))⟩,
              ⟨none, some 17, .p (.mv (.s 3))⟩,
              ⟨none, some 18, .p (.bin .add (.s 17) (.c (.int .i64 1)))⟩,
              ⟨none, some 19, .p (.vf .sidx [.s 16, .s 18])⟩,
              ⟨none, some 20, .p (.bin .leq (.c (.int .u8 49)) (.s 19))⟩]),
              (none, [⟨none, some 21, .p (.pick (.s 15) (.s 20) (.c (.bool false)))⟩,
              ⟨none, some 22, .p (.mv (.s 21))⟩]),
              (some (22, true), [⟨none, some 23, .p (.mv (.s 0))⟩,
              ⟨none, some 24, .p (.mv (.s 3))⟩,
              ⟨none, some 25, .p (.bin .add (.s 24) (.c (.int .i64 1)))⟩,
              ⟨none, some 26, .p (.vf .sidx [.s 23, .s 25])⟩,
              ⟨none, some 27, .p (.bin .leq (.s 26) (.c (.int .u8 51)))⟩]),
              (none, [⟨none, some 28, .p (.pick (.s 22) (.s 27) (.c (.bool false)))⟩])] (.one (.tst (.one (.tst (.one (.tst (.one .nil) (.one .nil))) (.one (.one (.one .nil))))) (.one (.one (.one (.one (.one .nil))))))))
          (.cond (.s 28)
            (.ops [
                (none, [⟨none, some 29, .p (.mv (.s 0))⟩,
                ⟨none, some 30, .p (.mv (.s 3))⟩,
                ⟨none, some 31, .p (.vf (.ssl false true) [.s 29, .s 30])⟩,
                ⟨none, some 0, .p (.mv (.s 31))⟩])] (.one .nil))
            .skip)))
      (.seq
        (.ops [
            (none, [⟨none, some 32, .p (.mv (.s 0))⟩,
            ⟨none, some 33, .e (.call (.c (.func (.func 93) ⟨[]⟩ ⟨[]⟩)) [.s 32])⟩,
            ⟨none, some 2, .p (.mv (.s 33))⟩])] (.one .nil))
        .ret)))
theorem cfn64 : cfn Tryz.prog 64 = some ⟨34, 6, d64.erase, [(.s 2, none)]⟩ := by kernel_rfl
theorem ok64 : d64.ok 34 6 = true := by kernel_rfl
noncomputable def F64 (a0 : Value) (H : Heap) (nx : Nat) (k : EP) : Prop :=
  wJoin (fun tj_1 =>
    wLen a0 1 H fun t5_3 =>
    wBin .sub t5_3 (.int .i64 2) fun t6_4 =>
    wJoin (fun tj_5 =>
      wBin .gtr t6_4 (.int .i64 0) fun t8_7 =>
      wGuard true t8_7 (
        wVf .sidx [a0, t6_4] fun t12_8 =>
        wBin .eql t12_8 (.int .u8 46) fun t13_9 =>
        wGuard true t13_9 (
          wBin .add t6_4 (.int .i64 1) fun t18_10 =>
          wVf .sidx [a0, t18_10] fun t19_11 =>
          wBin .leq (.int .u8 49) t19_11 fun t20_12 =>
          wGuard true t20_12 (
            wBin .add t6_4 (.int .i64 1) fun t25_13 =>
            wVf .sidx [a0, t25_13] fun t26_14 =>
            wBin .leq t26_14 (.int .u8 51) fun t27_15 =>
            tj_5 [t27_15] H nx) (
            tj_5 [(.bool false)] H nx)) (
            tj_5 [(.bool false)] H nx)) (
            tj_5 [(.bool false)] H nx)) (fun tL_6 H2 nx2 =>
      wIf (tL_6.getD 0 undef) (
        wVf (.ssl false true) [a0, t6_4] fun t31_16 =>
        tj_1 [t31_16] H2 nx2) (
        tj_1 [a0] H2 nx2))) (fun tL_2 H1 nx1 =>
    wCall Tryz.prog 93 [(tL_2.getD 0 undef)] H1 nx1 fun t33_17 H3 nx3 =>
    forceV t33_17 fun tv_18 => k tv_18 H3 nx3)
theorem eq64 (a0 : Value) (H : Heap) (nx : Nat) (k : EP) : wBody Tryz.prog 34 6 d64 [(.s 2, none)] [a0] H nx k = F64 a0 H nx k := by kernel_rfl
theorem spec64 {a0 : Value} {H : Heap} {nx : Nat} {k : EP} (h : F64 a0 H nx k) : Ans Tryz.prog 64 [a0] H nx k :=
  spec_of_body mixed namesOK cfn64 ok64 (by simp) ((eq64 a0 H nx k).symm ▸ h)

/-! 63: ordinal/explain.checked$1 -/
def d63 : D :=
  (.seq
    (.ops [
        (none, [⟨none, some 2, .p (.mv (.c (.bool false)))⟩])] (.one .nil))
    (.seq
      (.ops [
          (none, [⟨none, some 3, .p (.mv (.s 0))⟩,
          ⟨none, some 4, .e (.call (.c (.func (.func 64) ⟨[]⟩ ⟨[]⟩)) [.s 3])⟩,
          ⟨none, some 5, .p (.un .not (.s 4))⟩,
          ⟨none, some 2, .p (.mv (.s 5))⟩])] (.one .nil))
      .ret))
theorem cfn63 : cfn Tryz.prog 63 = some ⟨6, 3, d63.erase, [(.s 2, none)]⟩ := by kernel_rfl
theorem ok63 : d63.ok 6 3 = true := by kernel_rfl
noncomputable def F63 (a0 : Value) (H : Heap) (nx : Nat) (k : EP) : Prop :=
  wCall Tryz.prog 64 [a0] H nx fun t4_1 H1 nx1 =>
  wUn .not t4_1 fun t5_2 =>
  forceV t5_2 fun tv_3 => k tv_3 H1 nx1
theorem eq63 (a0 : Value) (H : Heap) (nx : Nat) (k : EP) : wBody Tryz.prog 6 3 d63 [(.s 2, none)] [a0] H nx k = F63 a0 H nx k := by kernel_rfl
theorem spec63 {a0 : Value} {H : Heap} {nx : Nat} {k : EP} (h : F63 a0 H nx k) : Ans Tryz.prog 63 [a0] H nx k :=
  spec_of_body mixed namesOK cfn63 ok63 (by simp) ((eq63 a0 H nx k).symm ▸ h)

/-! 92: slices.IndexFunc[[]string,string] -/
def d92 : D :=
  (.seq
    (.ops [
        (none, [⟨none, some 4, .p (.mv (.c (.int .i64 0)))⟩])] (.one .nil))
    (.seq
      (.seq
        (.ops [
            (none, [⟨none, some 6, .p (.mv (.s 0))⟩,
            ⟨none, some 7, .r (.len (.s 6) 0)⟩,
            ⟨none, some 8, .p (.mv (.c (.int .i64 0)))⟩])] (.one .nil))
        (.block 0
          (.loop [8] [4, 5, 9, 10, 11, 12, 13, 14, 15, 16, 17, 18]
            (.seq
              (.ops [
                  (none, [⟨none, some 9, .p (.bin .lss (.s 8) (.s 7))⟩])] (.one .nil))
              (.seq
                (.cond (.s 9)
                  .skip
                  (.exit 0))
                (.seq
                  (.block 1
                    (.seq
                      (.ops [
                          (none, [⟨none, some 10, .p (.mv (.s 8))⟩,
                          ⟨none, some 5, .p (.mv (.s 10))⟩])] (.one .nil))
                      (.seq
                        (.ops [
                            (none, [⟨none, some 11, .p (.mv (.s 1))⟩,
                            ⟨none, some 12, .p (.mv (.s 0))⟩,
                            ⟨none, some 13, .p (.mv (.s 5))⟩,
                            ⟨none, some 14, .p (.idx (.s 12) (.s 13) none 1)⟩,
                            ⟨none, some 15, .r (.ld (.s 14) none)⟩,
                            ⟨none, some 16, .e (.call (.s 11) [.s 15])⟩])] (.one .nil))
                        (.cond (.s 16)
                          (.seq
                            (.ops [
                                (none, [⟨none, some 17, .p (.mv (.s 5))⟩,
                                ⟨none, some 4, .p (.mv (.s 17))⟩])] (.one .nil))
                            .ret)
                          .skip))))
                  (.ops [
                      (none, [⟨none, some 18, .p (.bin .add (.s 8) (.c (.int .i64 1)))⟩,
                      ⟨none, some 8, .p (.mv (.s 18))⟩])] (.one .nil))))))))
      (.seq
        (.ops [
            (none, [⟨none, some 4, .p (.mv (.c (.int .i64 (-1))))⟩])] (.one .nil))
        .ret)))
theorem cfn92 : cfn Tryz.prog 92 = some ⟨19, 5, d92.erase, [(.s 4, none)]⟩ := by kernel_rfl
theorem ok92 : d92.ok 19 5 = true := by kernel_rfl
noncomputable def F92 (a0 a1 : Value) (H : Heap) (nx : Nat) (k : EP) : Prop :=
  wLen a0 0 H fun t7_1 =>
  wLoop (fun tih_2 tL_3 H1 nx1 =>
    wBin .lss (tL_3.getD 0 undef) t7_1 fun t9_4 =>
    wIf t9_4 (
      wIdx a0 (tL_3.getD 0 undef) none 1 fun t14_5 =>
      wLd t14_5 none H1 fun t15_6 =>
      wCallV Tryz.prog a1 [t15_6] H1 nx1 fun t16_7 H2 nx2 =>
      wIf t16_7 (
        forceV (tL_3.getD 0 undef) fun tv_8 => k tv_8 H2 nx2) (
        wBin .add (tL_3.getD 0 undef) (.int .i64 1) fun t18_9 =>
        tih_2 [t18_9] H2 nx2)) (
      forceV (.int .i64 (-1)) fun tv_10 => k tv_10 H1 nx1)) [(.int .i64 0)] H nx
theorem eq92 (a0 a1 : Value) (H : Heap) (nx : Nat) (k : EP) : wBody Tryz.prog 19 5 d92 [(.s 4, none)] [a0, a1] H nx k = F92 a0 a1 H nx k := by kernel_rfl
theorem spec92 {a0 a1 : Value} {H : Heap} {nx : Nat} {k : EP} (h : F92 a0 a1 H nx k) : Ans Tryz.prog 92 [a0, a1] H nx k :=
  spec_of_body mixed namesOK cfn92 ok92 (by simp) ((eq92 a0 a1 H nx k).symm ▸ h)

/-! 62: slices.ContainsFunc[[]string,string] -/
def d62 : D :=
  (.seq
    (.ops [
        (none, [⟨none, some 4, .p (.mv (.c (.bool false)))⟩])] (.one .nil))
    (.seq
      (.ops [
          (none, [⟨none, some 5, .p (.mv (.s 0))⟩,
          ⟨none, some 6, .p (.mv (.s 1))⟩,
          ⟨none, some 7, .e (.call (.c (.func (.func 92) ⟨[]⟩ ⟨[]⟩)) [.s 5, .s 6])⟩,
          ⟨none, some 8, .p (.bin .geq (.s 7) (.c (.int .i64 0)))⟩,
          ⟨none, some 4, .p (.mv (.s 8))⟩])] (.one .nil))
      .ret))
theorem cfn62 : cfn Tryz.prog 62 = some ⟨9, 4, d62.erase, [(.s 4, none)]⟩ := by kernel_rfl
theorem ok62 : d62.ok 9 4 = true := by kernel_rfl
noncomputable def F62 (a0 a1 : Value) (H : Heap) (nx : Nat) (k : EP) : Prop :=
  wCall Tryz.prog 92 [a0, a1] H nx fun t7_1 H1 nx1 =>
  wBin .geq t7_1 (.int .i64 0) fun t8_2 =>
  forceV t8_2 fun tv_3 => k tv_3 H1 nx1
theorem eq62 (a0 a1 : Value) (H : Heap) (nx : Nat) (k : EP) : wBody Tryz.prog 9 4 d62 [(.s 4, none)] [a0, a1] H nx k = F62 a0 a1 H nx k := by kernel_rfl
theorem spec62 {a0 a1 : Value} {H : Heap} {nx : Nat} {k : EP} (h : F62 a0 a1 H nx k) : Ans Tryz.prog 62 [a0, a1] H nx k :=
  spec_of_body mixed namesOK cfn62 ok62 (by simp) ((eq62 a0 a1 H nx k).symm ▸ h)

/-! 6: ordinal/ordinallaw56.great -/
def d6 : D :=
  (.seq
    (.ops [
        (none, [⟨none, some 3, .a (.box (.s 1))⟩,
        ⟨none, some 4, .p (.mv (.c (.bool false)))⟩])] (.one .nil))
    (.seq
      (.seq
        (.ops [
            (none, [⟨none, some 7, .p (.mv (.s 0))⟩,
            ⟨none, some 8, .r (.len (.s 7) 0)⟩,
            ⟨none, some 9, .p (.mv (.c (.int .i64 0)))⟩])] (.one .nil))
        (.block 0
          (.loop [9] [4, 6, 10, 11, 12, 13, 14, 15, 16]
            (.seq
              (.ops [
                  (none, [⟨none, some 10, .p (.bin .lss (.s 9) (.s 8))⟩])] (.one .nil))
              (.seq
                (.cond (.s 10)
                  .skip
                  (.exit 0))
                (.seq
                  (.block 1
                    (.seq
                      (.ops [
                          (none, [⟨none, some 11, .p (.idx (.s 7) (.s 9) none 1)⟩,
                          ⟨none, some 12, .r (.ld (.s 11) none)⟩,
                          ⟨none, some 6, .p (.mv (.s 12))⟩])] (.one .nil))
                      (.seq
                        (.ops [
                            (none, [⟨none, some 13, .p (.mv (.s 6))⟩,
                            ⟨none, some 14, .r (.len (.s 13) 1)⟩,
                            ⟨none, some 15, .p (.bin .gtr (.s 14) (.c (.int .i64 60)))⟩])] (.one .nil))
                        (.cond (.s 15)
                          (.seq
                            (.ops [
                                (none, [⟨none, some 4, .p (.mv (.c (.bool true)))⟩])] (.one .nil))
                            .ret)
                          .skip))))
                  (.ops [
                      (none, [⟨none, some 16, .p (.bin .add (.s 9) (.c (.int .i64 1)))⟩,
                      ⟨none, some 9, .p (.mv (.s 16))⟩])] (.one .nil))))))))
      (.seq
        (.ops [
            (none, [⟨none, some 17, .p (.mv (.s 0))⟩,
            ⟨none, some 18, .r (.len (.s 17) 0)⟩,
            ⟨none, some 19, .p (.bin .gtr (.s 18) (.c (.int .i64 20)))⟩,
            ⟨none, some 20, .p (.mv (.s 19))⟩]),
            (some (20, false), [⟨none, some 21, .p (.fld (.s 3) 1)⟩,
            ⟨none, some 22, .r (.ld (.s 21) none)⟩,
            ⟨none, some 23, .r (.len (.s 22) 0)⟩,
            ⟨none, some 24, .p (.fld (.s 3) 2)⟩,
            ⟨none, some 25, .r (.ld (.s 24) none)⟩,
            ⟨none, some 26, .r (.len (.s 25) 0)⟩,
            ⟨none, some 27, .p (.bin .add (.s 23) (.s 26))⟩,
            ⟨none, some 28, .p (.bin .gtr (.s 27) (.c (.int .i64 40)))⟩]),
            (none, [⟨none, some 29, .p (.pick (.s 20) (.c (.bool true)) (.s 28))⟩,
            ⟨none, some 4, .p (.mv (.s 29))⟩])] (.one (.tst (.one .nil) (.one .nil))))
        .ret)))
theorem cfn6 : cfn Tryz.prog 6 = some ⟨30, 5, d6.erase, [(.s 4, none)]⟩ := by kernel_rfl
theorem ok6 : d6.ok 30 5 = true := by kernel_rfl
noncomputable def F6 (a0 a1 : Value) (H : Heap) (nx : Nat) (k : EP) : Prop :=
  dBox a1 fun tc_1 => wNew (.cells tc_1 0) .ptr H nx fun t3_2 H1 nx1 =>
  wLen a0 0 H1 fun t8_3 =>
  wLoop (fun tih_4 tL_5 H2 nx2 =>
    wBin .lss (tL_5.getD 0 undef) t8_3 fun t10_6 =>
    wIf t10_6 (
      wIdx a0 (tL_5.getD 0 undef) none 1 fun t11_7 =>
      wLd t11_7 none H2 fun t12_8 =>
      wLen t12_8 1 H2 fun t14_9 =>
      wBin .gtr t14_9 (.int .i64 60) fun t15_10 =>
      wIf t15_10 (
        forceV (.bool true) fun tv_11 => k tv_11 H2 nx2) (
        wBin .add (tL_5.getD 0 undef) (.int .i64 1) fun t16_12 =>
        tih_4 [t16_12] H2 nx2)) (
      wLen a0 0 H2 fun t18_13 =>
      wBin .gtr t18_13 (.int .i64 20) fun t19_14 =>
      wGuard false t19_14 (
        wFld t3_2 1 fun t21_15 =>
        wLd t21_15 none H2 fun t22_16 =>
        wLen t22_16 0 H2 fun t23_17 =>
        wFld t3_2 2 fun t24_18 =>
        wLd t24_18 none H2 fun t25_19 =>
        wLen t25_19 0 H2 fun t26_20 =>
        wBin .add t23_17 t26_20 fun t27_21 =>
        wBin .gtr t27_21 (.int .i64 40) fun t28_22 =>
        forceV t28_22 fun tv_23 => k tv_23 H2 nx2) (
        forceV (.bool true) fun tv_24 => k tv_24 H2 nx2))) [(.int .i64 0)] H1 nx1
theorem eq6 (a0 a1 : Value) (H : Heap) (nx : Nat) (k : EP) : wBody Tryz.prog 30 5 d6 [(.s 4, none)] [a0, a1] H nx k = F6 a0 a1 H nx k := by kernel_rfl
theorem spec6 {a0 a1 : Value} {H : Heap} {nx : Nat} {k : EP} (h : F6 a0 a1 H nx k) : Ans Tryz.prog 6 [a0, a1] H nx k :=
  spec_of_body mixed namesOK cfn6 ok6 (by simp) ((eq6 a0 a1 H nx k).symm ▸ h)

/-! 23: ordinal/ordinallaw56.printed -/
def d23 : D :=
  (.seq
    (.ops [
        (none, [⟨none, some 1, .a (.box (.s 0))⟩,
        ⟨none, some 2, .p (.mv (.c (.slice none 0 0)))⟩])] (.one .nil))
    (.seq
      (.seq
        (.ops [
            (none, [⟨none, some 3, .p (.fld (.s 1) 0)⟩,
            ⟨none, some 4, .r (.ld (.s 3) none)⟩,
            ⟨none, some 5, .p (.bin .eql (.s 4) (.c (.int .i64 0)))⟩])] (.one .nil))
        (.cond (.s 5)
          (.seq
            (.ops [
                (none, [⟨none, some 6, .p (.fld (.s 1) 1)⟩,
                ⟨none, some 7, .r (.ld (.s 6) none)⟩,
                ⟨none, some 2, .p (.mv (.s 7))⟩])] (.one .nil))
            .ret)
          .skip))
      (.seq
        (.ops [
            (none, [⟨none, some 8, .p (.fld (.s 1) 2)⟩,
            ⟨none, some 9, .r (.ld (.s 8) none)⟩,
            ⟨none, some 2, .p (.mv (.s 9))⟩])] (.one .nil))
        .ret)))
theorem cfn23 : cfn Tryz.prog 23 = some ⟨10, 4, d23.erase, [(.s 2, none)]⟩ := by kernel_rfl
theorem ok23 : d23.ok 10 4 = true := by kernel_rfl
noncomputable def F23 (a0 : Value) (H : Heap) (nx : Nat) (k : EP) : Prop :=
  dBox a0 fun tc_1 => wNew (.cells tc_1 0) .ptr H nx fun t1_2 H1 nx1 =>
  wFld t1_2 0 fun t3_3 =>
  wLd t3_3 none H1 fun t4_4 =>
  wBin .eql t4_4 (.int .i64 0) fun t5_5 =>
  wIf t5_5 (
    wFld t1_2 1 fun t6_6 =>
    wLd t6_6 none H1 fun t7_7 =>
    forceV t7_7 fun tv_8 => k tv_8 H1 nx1) (
    wFld t1_2 2 fun t8_9 =>
    wLd t8_9 none H1 fun t9_10 =>
    forceV t9_10 fun tv_11 => k tv_11 H1 nx1)
theorem eq23 (a0 : Value) (H : Heap) (nx : Nat) (k : EP) : wBody Tryz.prog 10 4 d23 [(.s 2, none)] [a0] H nx k = F23 a0 H nx k := by kernel_rfl
theorem spec23 {a0 : Value} {H : Heap} {nx : Nat} {k : EP} (h : F23 a0 H nx k) : Ans Tryz.prog 23 [a0] H nx k :=
  spec_of_body mixed namesOK cfn23 ok23 (by simp) ((eq23 a0 H nx k).symm ▸ h)

/-! 35: ordinal/explain.words -/
def d35 : D :=
  (.seq
    (.ops [
        (none, [⟨none, some 0, .p (.mv (.c (.slice none 0 0)))⟩])] (.one .nil))
    (.seq
      (.ops [
          (none, [⟨none, some 1, .a (.bsl 4 1 [.string ⟨#[]⟩] [(0, .c (.string ⟨#[97, 99, 99, 101, 112, 116, 101, 100]⟩)), (1, .c (.string ⟨#[99, 121, 99, 108, 105, 99]⟩)), (2, .c (.string ⟨#[112, 97, 116, 104]⟩)), (3, .c (.string ⟨#[116, 114, 105, 111]⟩))])⟩,
          ⟨none, some 0, .p (.mv (.s 1))⟩])] (.one .nil))
      .ret))
theorem cfn35 : cfn Tryz.prog 35 = some ⟨2, 2, d35.erase, [(.s 0, none)]⟩ := by kernel_rfl
theorem ok35 : d35.ok 2 2 = true := by kernel_rfl
noncomputable def F35 (H : Heap) (nx : Nat) (k : EP) : Prop :=
  dBsl 4 1 [.string ⟨#[]⟩] [(0, (.string ⟨#[97, 99, 99, 101, 112, 116, 101, 100]⟩)), (1, (.string ⟨#[99, 121, 99, 108, 105, 99]⟩)), (2, (.string ⟨#[112, 97, 116, 104]⟩)), (3, (.string ⟨#[116, 114, 105, 111]⟩))] fun tc_1 => wNew (.cells tc_1 0) (.slice 4 4) H nx fun t1_2 H1 nx1 =>
  forceV t1_2 fun tv_3 => k tv_3 H1 nx1
theorem eq35 (H : Heap) (nx : Nat) (k : EP) : wBody Tryz.prog 2 2 d35 [(.s 0, none)] [] H nx k = F35  H nx k := by kernel_rfl
theorem spec35 {H : Heap} {nx : Nat} {k : EP} (h : F35  H nx k) : Ans Tryz.prog 35 [] H nx k :=
  spec_of_body mixed namesOK cfn35 ok35 (by simp) ((eq35  H nx k).symm ▸ h)

/-! 50: ordinal/ordinalref56.words -/
def d50 : D :=
  (.seq
    (.ops [
        (none, [⟨none, some 0, .p (.mv (.c (.slice none 0 0)))⟩])] (.one .nil))
    (.seq
      (.ops [
          (none, [⟨none, some 1, .a (.bsl 4 1 [.string ⟨#[]⟩] [(0, .c (.string ⟨#[97, 99, 99, 101, 112, 116, 101, 100]⟩)), (1, .c (.string ⟨#[99, 121, 99, 108, 105, 99]⟩)), (2, .c (.string ⟨#[112, 97, 116, 104]⟩)), (3, .c (.string ⟨#[116, 114, 105, 111]⟩))])⟩,
          ⟨none, some 0, .p (.mv (.s 1))⟩])] (.one .nil))
      .ret))
theorem cfn50 : cfn Tryz.prog 50 = some ⟨2, 2, d50.erase, [(.s 0, none)]⟩ := by kernel_rfl
theorem ok50 : d50.ok 2 2 = true := by kernel_rfl
noncomputable def F50 (H : Heap) (nx : Nat) (k : EP) : Prop :=
  dBsl 4 1 [.string ⟨#[]⟩] [(0, (.string ⟨#[97, 99, 99, 101, 112, 116, 101, 100]⟩)), (1, (.string ⟨#[99, 121, 99, 108, 105, 99]⟩)), (2, (.string ⟨#[112, 97, 116, 104]⟩)), (3, (.string ⟨#[116, 114, 105, 111]⟩))] fun tc_1 => wNew (.cells tc_1 0) (.slice 4 4) H nx fun t1_2 H1 nx1 =>
  forceV t1_2 fun tv_3 => k tv_3 H1 nx1
theorem eq50 (H : Heap) (nx : Nat) (k : EP) : wBody Tryz.prog 2 2 d50 [(.s 0, none)] [] H nx k = F50  H nx k := by kernel_rfl
theorem spec50 {H : Heap} {nx : Nat} {k : EP} (h : F50  H nx k) : Ans Tryz.prog 50 [] H nx k :=
  spec_of_body mixed namesOK cfn50 ok50 (by simp) ((eq50  H nx k).symm ▸ h)

/-! 66: slices.Values[[]string,string] -/
def d66 : D :=
  (.seq
    (.ops [
        (none, [⟨none, some 1, .a (.box (.s 0))⟩,
        ⟨none, some 2, .p (.mv (.c (.nilFunc)))⟩])] (.one .nil))
    (.seq
      (.ops [
          (none, [⟨none, some 3, .p (.mkf (.func 96) [] [.s 1])⟩,
          ⟨none, some 2, .p (.mv (.s 3))⟩])] (.one .nil))
      .ret))
theorem cfn66 : cfn Tryz.prog 66 = some ⟨4, 3, d66.erase, [(.s 2, none)]⟩ := by kernel_rfl
theorem ok66 : d66.ok 4 3 = true := by kernel_rfl
noncomputable def F66 (a0 : Value) (H : Heap) (nx : Nat) (k : EP) : Prop :=
  dBox a0 fun tc_1 => wNew (.cells tc_1 0) .ptr H nx fun t1_2 H1 nx1 =>
  forceV (.func (.func 96) ⟨[]⟩ ⟨[t1_2]⟩) fun tv_3 => k tv_3 H1 nx1
theorem eq66 (a0 : Value) (H : Heap) (nx : Nat) (k : EP) : wBody Tryz.prog 4 3 d66 [(.s 2, none)] [a0] H nx k = F66 a0 H nx k := by kernel_rfl
theorem spec66 {a0 : Value} {H : Heap} {nx : Nat} {k : EP} (h : F66 a0 H nx k) : Ans Tryz.prog 66 [a0] H nx k :=
  spec_of_body mixed namesOK cfn66 ok66 (by simp) ((eq66 a0 H nx k).symm ▸ h)

/-! 67: slices.Compact[[]string,string] -/
def d67 : D :=
  (.seq
    (.ops [
        (none, [⟨none, some 2, .p (.mv (.c (.slice none 0 0)))⟩])] (.one .nil))
    (.seq
      (.seq
        (.ops [
            (none, [⟨none, some 6, .p (.mv (.s 0))⟩,
            ⟨none, some 7, .r (.len (.s 6) 0)⟩,
            ⟨none, some 8, .p (.bin .lss (.s 7) (.c (.int .i64 2)))⟩])] (.one .nil))
        (.cond (.s 8)
          (.seq
            (.ops [
                (none, [⟨none, some 9, .p (.mv (.s 0))⟩,
                ⟨none, some 2, .p (.mv (.s 9))⟩])] (.one .nil))
            .ret)
          .skip))
      (.seq
        (.seq
          (.ops [
              (none, [⟨none, some 3, .p (.mv (.c (.int .i64 1)))⟩])] (.one .nil))
          (.block 0
            (.loop [3] [2, 4, 5, 10, 11, 12, 13, 14, 15, 16, 17, 18, 19, 20, 21, 22, 23, 24, 25, 26, 27, 28, 29, 30, 31, 32, 33, 34, 35, 36, 37, 38, 39, 40, 41, 42, 43, 44, 45, 46, 47, 48, 49, 50, 51, 52, 53, 54, 55, 56, 57, 58, 59]
              (.seq
                (.seq
                  (.ops [
                      (none, [⟨none, some 10, .p (.mv (.s 3))⟩,
                      ⟨none, some 11, .p (.mv (.s 0))⟩,
                      ⟨none, some 12, .r (.len (.s 11) 0)⟩,
                      ⟨none, some 13, .p (.bin .lss (.s 10) (.s 12))⟩])] (.one .nil))
                  (.cond (.s 13)
                    .skip
                    (.exit 0)))
                (.seq
                  (.block 1
                    (.seq
                      (.draw [0, 0, 3, 7, 0, 0, 32, 112, 240, 511] [
                          (none, [⟨none, some 16, .p (.mv (.s 0))⟩,
                          ⟨none, some 17, .p (.mv (.s 3))⟩,
                          ⟨none, some 18, .p (.idx (.s 16) (.s 17) none 1)⟩,
                          ⟨none, some 19, .r (.ld (.s 18) none)⟩,
                          ⟨none, some 20, .p (.mv (.s 0))⟩,
                          ⟨none, some 21, .p (.mv (.s 3))⟩,
                          ⟨none, some 22, .p (.bin .sub (.s 21) (.c (.int .i64 1)))⟩,
                          ⟨none, some 23, .p (.idx (.s 20) (.s 22) none 1)⟩,
                          ⟨none, some 24, .r (.ld (.s 23) none)⟩,
                          ⟨none, some 25, .p (.bin .eql (.s 19) (.s 24))⟩])] (.one .nil))
                      (.cond (.s 25)
                        (.seq
                          (.ops [
                              (none, [⟨none, some 26, .p (.mv (.s 0))⟩,
                              ⟨none, some 27, .p (.mv (.s 3))⟩,
                              ⟨none, some 28, .r (.sl (.s 26) 1 (some (.s 27)) none none)⟩,
                              ⟨none, some 4, .p (.mv (.s 28))⟩])] (.one .nil))
                          (.seq
                            (.seq
                              (.ops [
                                  (none, [⟨none, some 5, .p (.mv (.c (.int .i64 1)))⟩])] (.one .nil))
                              (.block 2
                                (.loop [3, 5] [29, 30, 31, 32, 33, 34, 35, 36, 37, 38, 39, 40, 41, 42, 43, 44, 45, 46, 47, 48, 49, 50, 51, 52, 53]
                                  (.seq
                                    (.seq
                                      (.ops [
                                          (none, [⟨none, some 29, .p (.mv (.s 5))⟩,
                                          ⟨none, some 30, .p (.mv (.s 4))⟩,
                                          ⟨none, some 31, .r (.len (.s 30) 0)⟩,
                                          ⟨none, some 32, .p (.bin .lss (.s 29) (.s 31))⟩])] (.one .nil))
                                      (.cond (.s 32)
                                        .skip
                                        (.exit 2)))
                                    (.join [3] [35, 36, 37, 38, 39, 40, 41, 42, 43, 44, 45, 46, 47, 48, 49, 50, 51, 52, 53]
                                      (.block 3
                                        (.seq
                                          (.draw [0, 0, 3, 7, 0, 0, 32, 112, 240, 511] [
                                              (none, [⟨none, some 35, .p (.mv (.s 4))⟩,
                                              ⟨none, some 36, .p (.mv (.s 5))⟩,
                                              ⟨none, some 37, .p (.idx (.s 35) (.s 36) none 1)⟩,
                                              ⟨none, some 38, .r (.ld (.s 37) none)⟩,
                                              ⟨none, some 39, .p (.mv (.s 4))⟩,
                                              ⟨none, some 40, .p (.mv (.s 5))⟩,
                                              ⟨none, some 41, .p (.bin .sub (.s 40) (.c (.int .i64 1)))⟩,
                                              ⟨none, some 42, .p (.idx (.s 39) (.s 41) none 1)⟩,
                                              ⟨none, some 43, .r (.ld (.s 42) none)⟩,
                                              ⟨none, some 44, .p (.bin .neq (.s 38) (.s 43))⟩])] (.one .nil))
                                          (.cond (.s 44)
                                            (.seq
                                              (.ops [
                                                  (none, [⟨none, some 45, .p (.mv (.s 0))⟩,
                                                  ⟨none, some 46, .p (.mv (.s 3))⟩,
                                                  ⟨none, some 47, .p (.mv (.s 4))⟩,
                                                  ⟨none, some 48, .p (.mv (.s 5))⟩,
                                                  ⟨none, some 49, .p (.idx (.s 47) (.s 48) none 1)⟩,
                                                  ⟨none, some 50, .r (.ld (.s 49) none)⟩,
                                                  ⟨none, some 51, .p (.idx (.s 45) (.s 46) none 1)⟩,
                                                  ⟨none, none, .e (.st (.s 51) (.s 50) 1)⟩])] (.one .nil))
                                              (.ops [
                                                  (none, [⟨none, some 52, .p (.mv (.s 3))⟩,
                                                  ⟨none, some 53, .p (.bin .add (.s 52) (.c (.int .i64 1)))⟩,
                                                  ⟨none, some 3, .p (.mv (.s 53))⟩])] (.one .nil)))
                                            .skip)))
                                      (.ops [
                                          (none, [⟨none, some 33, .p (.mv (.s 5))⟩,
                                          ⟨none, some 34, .p (.bin .add (.s 33) (.c (.int .i64 1)))⟩,
                                          ⟨none, some 5, .p (.mv (.s 34))⟩])] (.one .nil)))))))
                            (.seq
                              (.ops [
                                  (none, [⟨none, some 54, .p (.mv (.s 0))⟩,
                                  ⟨none, some 55, .p (.mv (.s 3))⟩,
                                  ⟨none, some 56, .r (.sl (.s 54) 1 (some (.s 55)) none none)⟩,
                                  ⟨none, none, .e (.clrS (.s 56) [.string ⟨#[]⟩])⟩])] (.one .nil))
                              (.seq
                                (.ops [
                                    (none, [⟨none, some 57, .p (.mv (.s 0))⟩,
                                    ⟨none, some 58, .p (.mv (.s 3))⟩,
                                    ⟨none, some 59, .r (.sl (.s 57) 1 none (some (.s 58)) none)⟩,
                                    ⟨none, some 2, .p (.mv (.s 59))⟩])] (.one .nil))
                                .ret))))
                        .skip)))
                  (.ops [
                      (none, [⟨none, some 14, .p (.mv (.s 3))⟩,
                      ⟨none, some 15, .p (.bin .add (.s 14) (.c (.int .i64 1)))⟩,
                      ⟨none, some 3, .p (.mv (.s 15))⟩])] (.one .nil)))))))
        (.seq
          (.ops [
              (none, [⟨none, some 60, .p (.mv (.s 0))⟩,
              ⟨none, some 2, .p (.mv (.s 60))⟩])] (.one .nil))
          .ret))))
theorem cfn67 : cfn Tryz.prog 67 = some ⟨61, 6, d67.erase, [(.s 2, none)]⟩ := by kernel_rfl
theorem ok67 : d67.ok 61 6 = true := by kernel_rfl
noncomputable def F67 (a0 : Value) (H : Heap) (nx : Nat) (k : EP) : Prop :=
  wLen a0 0 H fun t7_1 =>
  wBin .lss t7_1 (.int .i64 2) fun t8_2 =>
  wIf t8_2 (
    forceV a0 fun tv_3 => k tv_3 H nx) (
    wLoop (fun tih_4 tL_5 H1 nx1 =>
      wLen a0 0 H1 fun t12_6 =>
      wBin .lss (tL_5.getD 0 undef) t12_6 fun t13_7 =>
      wIf t13_7 (
        forceN (nx1 + 10) fun nx2 =>
        wIdx a0 (tL_5.getD 0 undef) none 1 fun t18_8 =>
        wLd t18_8 none H1 fun t19_9 =>
        wBin .sub (tL_5.getD 0 undef) (.int .i64 1) fun t22_10 =>
        wIdx a0 t22_10 none 1 fun t23_11 =>
        wLd t23_11 none H1 fun t24_12 =>
        wBin .eql t19_9 t24_12 fun t25_13 =>
        (((((wLd t23_11 none H1 fun tq_15 => tq_15 = t24_12) ∧ True) ∧ (((wLd t18_8 none H1 fun tq_14 => tq_14 = t19_9) ∧ True) ∧ True))) ∧ (
          wIf t25_13 (
            wSl a0 1 (some (tL_5.getD 0 undef)) none none H1 fun t28_16 =>
            wLoop (fun tih_17 tL_18 H3 nx3 =>
              wLen t28_16 0 H3 fun t31_19 =>
              wBin .lss (tL_18.getD 1 undef) t31_19 fun t32_20 =>
              wIf t32_20 (
                wJoin (fun tj_21 =>
                  forceN (nx3 + 10) fun nx5 =>
                  wIdx t28_16 (tL_18.getD 1 undef) none 1 fun t37_23 =>
                  wLd t37_23 none H3 fun t38_24 =>
                  wBin .sub (tL_18.getD 1 undef) (.int .i64 1) fun t41_25 =>
                  wIdx t28_16 t41_25 none 1 fun t42_26 =>
                  wLd t42_26 none H3 fun t43_27 =>
                  wBin .neq t38_24 t43_27 fun t44_28 =>
                  (((((wLd t42_26 none H3 fun tq_30 => tq_30 = t43_27) ∧ True) ∧ (((wLd t37_23 none H3 fun tq_29 => tq_29 = t38_24) ∧ True) ∧ True))) ∧ (
                    wIf t44_28 (
                      wIdx t28_16 (tL_18.getD 1 undef) none 1 fun t49_31 =>
                      wLd t49_31 none H3 fun t50_32 =>
                      wIdx a0 (tL_18.getD 0 undef) none 1 fun t51_33 =>
                      wSt t51_33 t50_32 1 H3 fun H6 =>
                      wBin .add (tL_18.getD 0 undef) (.int .i64 1) fun t53_34 =>
                      tj_21 [t53_34] H6 nx5) (
                      tj_21 [(tL_18.getD 0 undef)] H3 nx5))) ∨ False) (fun tL_22 H4 nx4 =>
                  wBin .add (tL_18.getD 1 undef) (.int .i64 1) fun t34_35 =>
                  tih_17 [(tL_22.getD 0 undef), t34_35] H4 nx4)) (
                wSl a0 1 (some (tL_18.getD 0 undef)) none none H3 fun t56_36 =>
                wClrS t56_36 [.string ⟨#[]⟩] H3 fun H7 =>
                wSl a0 1 none (some (tL_18.getD 0 undef)) none H7 fun t59_37 =>
                forceV t59_37 fun tv_38 => k tv_38 H7 nx3)) [(tL_5.getD 0 undef), (.int .i64 1)] H1 nx2) (
            wBin .add (tL_5.getD 0 undef) (.int .i64 1) fun t15_39 =>
            tih_4 [t15_39] H1 nx2))) ∨ False) (
        forceV a0 fun tv_40 => k tv_40 H1 nx1)) [(.int .i64 1)] H nx)
theorem eq67 (a0 : Value) (H : Heap) (nx : Nat) (k : EP) : wBody Tryz.prog 61 6 d67 [(.s 2, none)] [a0] H nx k = F67 a0 H nx k := by kernel_rfl
theorem spec67 {a0 : Value} {H : Heap} {nx : Nat} {k : EP} (h : F67 a0 H nx k) : Ans Tryz.prog 67 [a0] H nx k :=
  spec_of_body mixed namesOK cfn67 ok67 (by simp) ((eq67 a0 H nx k).symm ▸ h)

end Go.Proofs.YthbdeaeghipliaaGreatDoor

set_option linter.unusedSimpArgs false
set_option linter.unusedVariables false
set_option linter.unusedSectionVars false
namespace Go.Proofs.YthbdeaeghipliaaGreatDoor
open Go.RowKit Go.Shelf

attribute [local go_sem] Oper.semAt_some

/-- What has come when k rounds are over. -/
def upto {α : Type} (f : Nat → α) (k : Nat) : List α := (List.range k).map f
theorem upto_succ {α : Type} (f : Nat → α) (k : Nat) : upto f (k + 1) = upto f k ++ [f k] := by simp [upto, List.range_succ]
theorem upto_length {α : Type} (f : Nat → α) (k : Nat) : (upto f k).length = k := by simp [upto]
theorem upto_all (zs : List ByteArray) : upto (fun j => zs[j]?.getD ⟨#[]⟩) zs.length = zs := by
  apply List.ext_getElem
  · simp [upto]
  · intro i h1 h2
    simp [upto, h2]
theorem upto_take (zs : List ByteArray) {k : Nat} (hk : k ≤ zs.length) : upto (fun j => zs[j]?.getD ⟨#[]⟩) k = zs.take k := by
  apply List.ext_getElem
  · simp [upto, hk]
  · intro i h1 h2
    have : i < zs.length := by simp [upto] at h1; omega
    simp [upto, this]

set_option maxRecDepth 100000 in
set_option maxHeartbeats 2000000 in
theorem values1_in (F : Fence) (n : Nat) (h7 : F.fn 96) (hro : F.round = none) (hn : 1 ≤ n) (l Bs Bo n₀ b off len cap : Nat) (zs : List ByteArray) (hreach : len * 16 ≤ 140737488351232) (hb : b < n₀) (J Jx : List ByteArray → World → Prop)
    (hY : ∀ pre x W, J pre W → pre.length < len → YieldAt F (n - 1) Tryz.prog l #[.string x] W fun e W' =>
      (e = .returned (.bool true) ∧ J (pre ++ [x]) W' ∧ Below n₀ W W') ∨ (e = .returned (.bool false) ∧ Jx (pre ++ [x]) W'))
    (W : World) (hBs : W.cell? ⟨Bs, Bo, none⟩ = some (.slice (some ⟨b, off, none⟩) len cap)) (hc : ∀ j, j < len → W.cell? ⟨b, off + j, none⟩ = some (.string (zs[j]?.getD ⟨#[]⟩))) (h0 : J [] W) :
    CallsIn F n Tryz.prog 96 #[.func (.yield l) #[] #[], .pointer (some ⟨Bs, Bo, none⟩)] W fun e W' => (∃ v, e = .returned v) ∧
      ((∃ ys, ys = upto (fun j => zs[j]?.getD ⟨#[]⟩) len ∧ J ys W') ∨ (∃ pre, (∃ k, k ≤ len ∧ pre = upto (fun j => zs[j]?.getD ⟨#[]⟩) k) ∧ Jx pre W')) := by
  refine callsIn_of_wp Tryz.func96 rfl h7 ?_ hro
  simp only [Tryz.ntmps96, List.size_toArray, List.length_cons, List.length_nil, Nat.reduceAdd, Nat.reduceSub, Array.replicate_succ, Array.replicate_zero, List.push_toArray, List.append_toArray, List.nil_append, List.cons_append]
  gi_wp2
  gi_loopw [7] (fun i wr => ∃ k : Nat, k ≤ len ∧ i = .int .i64 k ∧ J (upto (fun j => zs[j]?.getD ⟨#[]⟩) k) wr ∧ Below n₀ W wr)
    (fun i _ => len - (intOf i).toNat)
  case atStart => exact ⟨0, Nat.zero_le _, rfl, h0, Below.refl _ _⟩
  case round =>
    obtain ⟨k, hk, rfl, hJs, hnx⟩ := hrel
    have hcx : k < len → wr.cell? ⟨b, off + k, none⟩ = some (.string (zs[k]?.getD ⟨#[]⟩)) := fun h => (hnx.cell (p := ⟨b, off + k, none⟩) hb).trans (hc k h)
    by_cases hlt : k < len
    · obtain ⟨fn, tmps, assign, body, hy, hR⟩ := hY _ (zs[k]?.getD ⟨#[]⟩) wr hJs (by rw [upto_length]; exact hlt)
      have hcx' := hcx hlt
      gi_wp2
      refine hR.mono ?_
      rintro e W3 (⟨rfl, hJ3, hk3⟩ | ⟨rfl, hJx3⟩)
      · gi_wp2
        go_roundw
        case rel => exact ⟨k + 1, by omega, by simp, by rw [upto_succ]; exact hJ3, hnx.trans hk3⟩
        case measure => simp [intOf]; omega
      · gi_wp2
        refine bodyPost_ret (results_none rfl _ _ _) rfl ?_
        exact ⟨⟨_, rfl⟩, .inr ⟨_, ⟨k + 1, by omega, (upto_succ _ _).symm⟩, hJx3⟩⟩
    · obtain rfl : k = len := by omega
      gi_wp2
      go_end0
      exact ⟨⟨_, rfl⟩, .inl ⟨_, rfl, hJs⟩⟩

/-- The slice value holds the strings zs, in a block below n₀; or it is nil and there are none. -/
def Strs (n₀ : Nat) (W : World) (sv : Value) (zs : List ByteArray) : Prop :=
  (sv = .slice none 0 0 ∧ zs = []) ∨ ∃ b off cap, sv = .slice (some ⟨b, off, none⟩) zs.length cap ∧ b < n₀ ∧ ∀ j, j < zs.length → W.cell? ⟨b, off + j, none⟩ = some (.string (zs[j]?.getD ⟨#[]⟩))
theorem Strs.below {n₀ : Nat} {A B : World} (h : Below n₀ A B) {sv : Value} {zs : List ByteArray} : Strs n₀ A sv zs → Strs n₀ B sv zs
  | .inl e => .inl e
  | .inr ⟨b, off, cap, e, hb, hc⟩ => .inr ⟨b, off, cap, e, hb, fun j hj => (h.cell (p := ⟨b, off + j, none⟩) hb).trans (hc j hj)⟩

set_option maxRecDepth 100000 in
set_option maxHeartbeats 1000000 in
theorem values1_nil_in (F : Fence) (n : Nat) (h7 : F.fn 96) (hro : F.round = none) (l Bs Bo : Nat) (J : List ByteArray → World → Prop) (W : World) (hBs : W.cell? ⟨Bs, Bo, none⟩ = some (.slice none 0 0)) (h0 : J [] W) :
    CallsIn F n Tryz.prog 96 #[.func (.yield l) #[] #[], .pointer (some ⟨Bs, Bo, none⟩)] W fun e W' => (∃ v, e = .returned v) ∧ J [] W' := by
  refine callsIn_of_wp Tryz.func96 rfl h7 ?_ hro
  simp only [Tryz.ntmps96, List.size_toArray, List.length_cons, List.length_nil, Nat.reduceAdd, Nat.reduceSub, Array.replicate_succ, Array.replicate_zero, List.push_toArray, List.append_toArray, List.nil_append, List.cons_append]
  gi_wp2
  gi_loopw [7] (fun i wr => i = .int .i64 0 ∧ J [] wr) (fun _ _ => 0)
  case atStart => exact ⟨rfl, h0⟩
  case round =>
    obtain ⟨rfl, hJs⟩ := hrel
    gi_wp2
    go_end0
    exact ⟨⟨_, rfl⟩, hJs⟩

theorem values_stops (F : Fence) (n : Nat) (h7 : F.fn 96) (hro : F.round = none) (hn : 1 ≤ n) (Bs Bo n₀ : Nat) (sv : Value) (zs : List ByteArray) (hreach : zs.length * 16 ≤ 140737488351232) (w : World) (hBs : Bs < w.heap.size) (hn₀ : n₀ ≤ w.heap.size)
    (hc : w.cell? ⟨Bs, Bo, none⟩ = some sv) (hI : Strs n₀ w sv zs) :
    SeqStopsK F n Tryz.prog 96 #[.pointer (some ⟨Bs, Bo, none⟩)] (fun x : ByteArray => #[Value.string x]) (Below n₀) (fun ys => ys = zs) (fun pre => pre <+: zs) zs.length w := fun l J Jx W hW _ _ hY h0 => by
  have hc' := (hW.cell (p := ⟨Bs, Bo, none⟩) hBs).trans hc
  rcases hI.below (hW.mono hn₀) with ⟨rfl, rfl⟩ | ⟨b, off, cap, rfl, hb, hcs⟩
  · exact (values1_nil_in F n h7 hro l Bs Bo J W hc' h0).mono fun e W' ⟨he, hj⟩ => ⟨he, .inl ⟨_, rfl, hj⟩⟩
  · refine (values1_in F n h7 hro hn l Bs Bo n₀ b off zs.length cap zs hreach hb J Jx hY W hc' hcs h0).mono ?_
    rintro e W' ⟨he, ⟨ys, rfl, hj⟩ | ⟨pre, ⟨k, hk, rfl⟩, hj⟩⟩
    · exact ⟨he, .inl ⟨_, upto_all zs, hj⟩⟩
    · exact ⟨he, .inr ⟨_, by rw [upto_take zs hk]; exact List.take_prefix _ _, hj⟩⟩

theorem info9 : (Tryz.prog.info? 9).map (fun i => (i.zero, i.size, i.bytes)) = some (some (.string ⟨#[]⟩), 1, 16) := by kernel_rfl

set_option maxRecDepth 100000 in
set_option maxHeartbeats 2000000 in
/-- AppendSeq(nil, Values(s)). -/
theorem appendSeq_in (F : Fence) (n : Nat) (h48 : F.fn 116) (h40 : F.fn 96) (hro : F.round = none) (hn : 3 ≤ n) (Bs Bo : Nat) (sv : Value) (zs : List ByteArray) (hlen : zs.length ≤ 1000) (w : World) (hBs : Bs < w.heap.size) (hc : w.cell? ⟨Bs, Bo, none⟩ = some sv) (hI : Strs w.heap.size w sv zs) :
    CallsIn F n Tryz.prog 116 #[.slice none 0 0, .func (.func 96) #[] #[.pointer (some ⟨Bs, Bo, none⟩)]] w fun e W' => ∃ v, e = .returned v ∧ W'.ownsRow w.heap.size 9 1 v zs.length (zs.map Value.string) ∧ (v = .slice none 0 0 ↔ zs = []) ∧ Below w.heap.size w W' := by
  have h1 : 1 ≤ n := by omega
  have hmax : (1000 : Nat) ≤ maxLen := by decide
  obtain ⟨i0, hi, hz0, hz1, hz2⟩ := info_parts info9
  refine callsIn_of_wp_marks Tryz.func116 rfl h48 ?_ hro
  simp only [Tryz.ntmps116, List.size_toArray, List.length_cons, List.length_nil, Nat.reduceAdd, Nat.reduceSub, Array.replicate_succ, Array.replicate_zero, List.push_toArray, List.append_toArray, List.nil_append, List.cons_append]
  gi_wp2
  have bO := Boxed.new w 22 (.slice none 0 0)
  have hB0 : Below w.heap.size w (w.alloc (.cells #[.slice none 0 0] 22)) := (Below.refl _ w).alloc (Nat.le_refl _) _
  refine wpIn_rangeFunc_ownG hro h1 (gf := 96) (lb := #[.pointer (some ⟨Bs, Bo, none⟩)]) rfl h40 (enters_of Tryz.func96 (by kernel_rfl) rfl)
    (values_stops F (n - 1) h40 hro (by omega) Bs Bo w.heap.size sv zs (by omega) _ (by simp; omega) (by simp) ((hB0.cell (p := ⟨Bs, Bo, none⟩) hBs).trans hc) (hI.below hB0)) belowK_t (belowK_b (by simp)) (Below.refl _ _) (fun _ => rfl)
    (fun pre W => (∃ v, Boxed W w.heap.size 22 v ∧ W.ownsRow w.heap.size 9 1 v pre.length (pre.map Value.string) ∧ (v = .slice none 0 0 ↔ pre = [])) ∧ Below w.heap.size w W)
    (fun _ _ _ => False)
    (OwnFrom.and (Own.from (holdsRow_own w.heap.size w.heap.size 22 9 1 (fun pre => pre.length) (fun pre => pre.map Value.string) (fun pre v => v = .slice none 0 0 ↔ pre = [])) _) (ownFrom_below (Nat.le_refl _) (by simp)))
    (fun _ _ _ _ _ hs _ _ => hs)
    ⟨⟨_, bO, World.ownsRow_nil _ _ _ _, by simp⟩, hB0⟩
    (fun x => { tmps := #[.slice none 0 0, .func (.func 96) #[] #[.pointer (some ⟨Bs, Bo, none⟩)], .pointer (some ⟨w.heap.size, 0, none⟩), undef, .slice none 0 0, .string x, .func (.func 96) #[] #[.pointer (some ⟨Bs, Bo, none⟩)], .string x, undef, undef, undef, undef, undef], defers := [] }) ?assign ?body ?done ?stop
  case assign =>
    intro l x W K hK
    gi_wp2
    exact hK
  case body =>
    rintro l pre x W ⟨⟨v, hv, hrow, hnil⟩, hB⟩ hlt
    have hc := hv.cell
    gi_wp2_with (gi_at_builtin; refine wpListIn_append_own _ rfl _ _ 22 rfl w.heap.size 9 i0 (.string ⟨#[]⟩) 1 16 Tryz.underlying22 hi hz0 hz1 hz2 rfl (by decide) _ _ _ rfl (hrow.alloc _) ⟨W.heap.size, 0, none⟩ 1 1 [.string x] rfl rfl (cell_one_new _ _ _) (by simp [Value.oneCell']) (by omega) (by omega) (by have := hB.size; simp; omega) ?_; intro v' w1 hown' hgrow _; obtain ⟨g', cap', rfl⟩ := ownsRow_succ hown'; obtain ⟨hv1, hv2, hr2, hk2, hb2⟩ := hv.appended (by decide) hrow hB.size (Nat.le_refl _) hown' hgrow; have hc1 := hv1.cell; have hf1 := hv1.frozen)
    exact ⟨hk2.from _, hb2, ⟨_, hv2, by simpa using hr2, by simp⟩, hB.trans hb2⟩
  case done =>
    rintro D ys W hD rfl ⟨⟨v, hv, hrow, hnil⟩, hB⟩ hK
    have hc := hv.cell
    gi_wp2
    refine ⟨by simp, .inl ⟨_, _, rfl, run_takeDeferred hK, ?_⟩⟩
    exact ⟨_, results_tmp rfl _ _ _, v, rfl, ownsRow_putObj hrow _ hK rfl, hnil, hB.trans (belowK_b (w := w) (Nat.le_refl _) W D _ _ (by simp at hD; omega) hK rfl rfl)⟩
  case stop =>
    rintro D c pre W _ _ h _
    exact h.elim

theorem appendSeq (Bs Bo : Nat) (sv : Value) (zs : List ByteArray) (hlen : zs.length ≤ 1000) (w : World) (hBs : Bs < w.heap.size) (hc : w.cell? ⟨Bs, Bo, none⟩ = some sv) (hI : Strs w.heap.size w sv zs) :
    Calls Tryz.prog 116 #[.slice none 0 0, .func (.func 96) #[] #[.pointer (some ⟨Bs, Bo, none⟩)]] w fun e W' => ∃ v, e = .returned v ∧ W'.ownsRow w.heap.size 9 1 v zs.length (zs.map Value.string) ∧ (v = .slice none 0 0 ↔ zs = []) ∧ Below w.heap.size w W' :=
  callsIn_wide.1 (appendSeq_in Fence.wide 5 trivial trivial rfl (by omega) Bs Bo sv zs hlen w hBs hc hI)
end Go.Proofs.YthbdeaeghipliaaGreatDoor

namespace Go.Proofs
open Go.Shelf
def Tryz.lays156_ren : Go.Shelf.Ren := ⟨fun | 156 => 48 | 165 => 77 | 166 => 28 | 169 => 31 | 240 => 56 | 241 => 106 | 276 => 87 | 277 => 128 | n => n, fun | 31 => 22 | 9 => 9 | 3 => 3 | 4 => 4 | 0 => 0 | 20 => 20 | 72 => 94 | 76 => 100 | 70 => 92 | 37 => 88 | 75 => 99 | 127 => 132 | 164 => 158 | 5 => 5 | 80 => 104 | n => n, fun | n => n⟩
theorem Tryz.lays156 : Go.Proofs.Lays.n156 Tryz.prog Tryz.lays156_ren := {
  mixed := by kernel_rfl
  f156 := Tryz.func48.trans (congrArg some (by kernel_rfl))
  f165 := Tryz.func77.trans (congrArg some (by kernel_rfl))
  f166 := Tryz.func28.trans (congrArg some (by kernel_rfl))
  f169 := Tryz.func31.trans (congrArg some (by kernel_rfl))
  f240 := Tryz.func56.trans (congrArg some (by kernel_rfl))
  f241 := Tryz.func106.trans (congrArg some (by kernel_rfl))
  f276 := Tryz.func87.trans (congrArg some (by kernel_rfl))
  f277 := Tryz.func128.trans (congrArg some (by kernel_rfl))
  t0 := Tryz.underlying0
  a0 := Tryz.isAgg0
  z0 := Tryz.sizeOf0
  v0 := Tryz.zeroValue0
  t3 := Tryz.underlying3
  a3 := Tryz.isAgg3
  z3 := Tryz.sizeOf3
  v3 := Tryz.zeroValue3
  t4 := Tryz.underlying4
  a4 := Tryz.isAgg4
  z4 := Tryz.sizeOf4
  v4 := Tryz.zeroValue4
  t9 := Tryz.underlying9
  a9 := Tryz.isAgg9
  z9 := Tryz.sizeOf9
  v9 := Tryz.zeroValue9
  t20 := Tryz.underlying20
  a20 := Tryz.isAgg20
  z20 := Tryz.sizeOf20
  v20 := Tryz.zeroValue20
  t31 := Tryz.underlying22
  a31 := Tryz.isAgg22
  z31 := Tryz.sizeOf22
  v31 := Tryz.zeroValue22
  t37 := Tryz.underlying88
  a37 := Tryz.isAgg88
  z37 := Tryz.sizeOf88
  v37 := Tryz.zeroValue88
  t70 := Tryz.underlying92
  a70 := Tryz.isAgg92
  z70 := Tryz.sizeOf92
  v70 := Tryz.zeroValue92
  t72 := Tryz.underlying94
  a72 := Tryz.isAgg94
  z72 := Tryz.sizeOf94
  v72 := Tryz.zeroValue94
  t75 := Tryz.underlying99
  a75 := Tryz.isAgg99
  z75 := Tryz.sizeOf99
  v75 := Tryz.zeroValue99
  t76 := Tryz.underlying100
  a76 := Tryz.isAgg100
  z76 := Tryz.sizeOf100
  v76 := Tryz.zeroValue100
  t127 := Tryz.underlying132
  a127 := Tryz.isAgg132
  z127 := Tryz.sizeOf132
  v127 := Tryz.zeroValue132
  t164 := Tryz.underlying158
  a164 := Tryz.isAgg158
  z164 := Tryz.sizeOf158
  v164 := Tryz.zeroValue158 }
theorem Tryz.Builder_Extra_156 : Builder.Extra Tryz.prog Tryz.lays156_ren := {
  sizeBuilder := by kernel_rfl
  liesBuilder := by kernel_rfl
  t5 := Tryz.underlying5
  a5 := Tryz.isAgg5
  z5 := Tryz.sizeOf5
  v5 := Tryz.zeroValue5
  infoByte := by kernel_rfl
  cellsByte := by kernel_rfl
  sizeByte := by kernel_rfl
  neB5 := by decide }
open Go.RowKit in
/-- No element: the empty string; the world is as it was. (Whatever the slice's address and capacity: a nil slice too.) (LAID: no walk: one application.) -/
theorem Tryz.strings_Join_none (a : Option Addr) (c : Nat) (sep : ByteArray) (w : World) :
    Calls Tryz.prog 48 #[.slice a 0 c, .string sep] w fun e w' => e = .returned (.string ⟨#[]⟩) ∧ w' = w := Any.strings_Join_none Tryz.lays156 Tryz.Builder_Extra_156 a c sep w
open Go.RowKit in
/-- strings.Join: "Join concatenates the elements of its first argument to create a single string. The separator string sep is placed between elements in the resulting string.": HOWEVER MANY ELEMENTS. Below the heap's end the world is as it was. (LAID: no walk: one application.) -/
theorem Tryz.strings_Join (bk o c : Nat) (xs : List ByteArray) (sep : ByteArray) (w : World) (hcells : ∀ (j : Nat) x, xs[j]? = some x → w.cell? ⟨bk, o + j, none⟩ = some (.string x)) (hbk : bk < w.heap.size) (hN : xs.length ≤ 140737488355328) (hcap : xs.length ≤ c) (hlen : (Lib.join (xs.map (·.data.toList)) sep.data.toList).length ≤ 140737488355328) :
    Calls Tryz.prog 48 #[.slice (some ⟨bk, o, none⟩) xs.length c, .string sep] w fun e w' => e = .returned (.string ⟨(Lib.join (xs.map (·.data.toList)) sep.data.toList).toArray⟩) ∧ Below w.heap.size w w' := Any.strings_Join Tryz.lays156 Tryz.Builder_Extra_156 bk o c xs sep w hcells hbk hN hcap hlen
def Tryz.lays143_ren : Go.Shelf.Ren := ⟨fun | 143 => 99 | 219 => 122 | 217 => 142 | 225 => 143 | 224 => 144 | 267 => 145 | 266 => 154 | 314 => 155 | n => n, fun | 9 => 9 | 3 => 3 | 4 => 4 | 5 => 5 | 46 => 150 | 146 => 214 | 51 => 27 | n => n, fun | 1 => 1 | n => n⟩
theorem Tryz.lays143 : Go.Proofs.Lays.n143 Tryz.prog Tryz.lays143_ren := {
  mixed := by kernel_rfl
  f143 := Tryz.func99.trans (congrArg some (by kernel_rfl))
  f217 := Tryz.func142.trans (congrArg some (by kernel_rfl))
  f219 := Tryz.func122.trans (congrArg some (by kernel_rfl))
  f224 := Tryz.func144.trans (congrArg some (by kernel_rfl))
  f225 := Tryz.func143.trans (congrArg some (by kernel_rfl))
  f266 := Tryz.func154.trans (congrArg some (by kernel_rfl))
  f267 := Tryz.func145.trans (congrArg some (by kernel_rfl))
  f314 := Tryz.func155.trans (congrArg some (by kernel_rfl))
  t3 := Tryz.underlying3
  a3 := Tryz.isAgg3
  z3 := Tryz.sizeOf3
  v3 := Tryz.zeroValue3
  t4 := Tryz.underlying4
  a4 := Tryz.isAgg4
  z4 := Tryz.sizeOf4
  v4 := Tryz.zeroValue4
  t5 := Tryz.underlying5
  a5 := Tryz.isAgg5
  z5 := Tryz.sizeOf5
  v5 := Tryz.zeroValue5
  t9 := Tryz.underlying9
  a9 := Tryz.isAgg9
  z9 := Tryz.sizeOf9
  v9 := Tryz.zeroValue9
  t46 := Tryz.underlying150
  a46 := Tryz.isAgg150
  z46 := Tryz.sizeOf150
  v46 := Tryz.zeroValue150
  t51 := Tryz.underlying27
  a51 := Tryz.isAgg27
  z51 := Tryz.sizeOf27
  v51 := Tryz.zeroValue27
  t146 := Tryz.underlying214
  a146 := Tryz.isAgg214
  z146 := Tryz.sizeOf214
  v146 := Tryz.zeroValue214
  g1 := by kernel_rfl }
open Go.RowKit Go.Lib in
/-- strings.Index: "Index returns the index of the first instance of substr in s, or -1 if substr is not present in s.": AT A substr OF ONE BYTE c: IT RETURNS 'Lib.indexByte s c'; the world is as it was. (LAID: no walk: one application.) -/
theorem Tryz.strings_Index_one (s : ByteArray) (c : UInt8) (w : World) :
    Calls Tryz.prog 99 #[.string s, .string ⟨#[c]⟩] w fun e w' => e = .returned (.int .i64 (Lib.indexByte s.data.toList c)) ∧ w' = w := Any.strings_Index_one Tryz.lays143 s c w
def Tryz.lays138_ren : Go.Shelf.Ren := ⟨fun | 138 => 98 | 195 => 119 | 218 => 121 | 143 => 99 | 219 => 122 | 217 => 142 | 225 => 143 | 224 => 144 | 267 => 145 | 266 => 154 | 314 => 155 | n => n, fun | 9 => 9 | 3 => 3 | 4 => 4 | 5 => 5 | 0 => 0 | 46 => 150 | 146 => 214 | 51 => 27 | n => n, fun | 1 => 1 | n => n⟩
theorem Tryz.lays138 : Go.Proofs.Lays.n138 Tryz.prog Tryz.lays138_ren := {
  mixed := by kernel_rfl
  f138 := Tryz.func98.trans (congrArg some (by kernel_rfl))
  f143 := Tryz.func99.trans (congrArg some (by kernel_rfl))
  f195 := Tryz.func119.trans (congrArg some (by kernel_rfl))
  f217 := Tryz.func142.trans (congrArg some (by kernel_rfl))
  f218 := Tryz.func121.trans (congrArg some (by kernel_rfl))
  f219 := Tryz.func122.trans (congrArg some (by kernel_rfl))
  f224 := Tryz.func144.trans (congrArg some (by kernel_rfl))
  f225 := Tryz.func143.trans (congrArg some (by kernel_rfl))
  f266 := Tryz.func154.trans (congrArg some (by kernel_rfl))
  f267 := Tryz.func145.trans (congrArg some (by kernel_rfl))
  f314 := Tryz.func155.trans (congrArg some (by kernel_rfl))
  t0 := Tryz.underlying0
  a0 := Tryz.isAgg0
  z0 := Tryz.sizeOf0
  v0 := Tryz.zeroValue0
  t3 := Tryz.underlying3
  a3 := Tryz.isAgg3
  z3 := Tryz.sizeOf3
  v3 := Tryz.zeroValue3
  t4 := Tryz.underlying4
  a4 := Tryz.isAgg4
  z4 := Tryz.sizeOf4
  v4 := Tryz.zeroValue4
  t5 := Tryz.underlying5
  a5 := Tryz.isAgg5
  z5 := Tryz.sizeOf5
  v5 := Tryz.zeroValue5
  t9 := Tryz.underlying9
  a9 := Tryz.isAgg9
  z9 := Tryz.sizeOf9
  v9 := Tryz.zeroValue9
  t46 := Tryz.underlying150
  a46 := Tryz.isAgg150
  z46 := Tryz.sizeOf150
  v46 := Tryz.zeroValue150
  t51 := Tryz.underlying27
  a51 := Tryz.isAgg27
  z51 := Tryz.sizeOf27
  v51 := Tryz.zeroValue27
  t146 := Tryz.underlying214
  a146 := Tryz.isAgg214
  z146 := Tryz.sizeOf214
  v146 := Tryz.zeroValue214
  g1 := by kernel_rfl }
open Go.RowKit Go.Lib in
/-- strings.Count AT A substr OF ONE BYTE ('hp'): "Count counts the number of non-overlapping instances of substr in s.": IT RETURNS 'Lib.countByte s (that byte)'; the world is as it was. ✋ NO CONTRACT HERE YET at an empty substr (utf8.RuneCountInString) or at a longer one (a loop over strings.Index). (LAID: no walk: one application.) -/
theorem Tryz.strings_Count_one (s : ByteArray) (c : UInt8) (w : World) :
    Calls Tryz.prog 98 #[.string s, .string ⟨#[c]⟩] w fun e w' => e = .returned (.int .i64 (Lib.countByte s.data.toList c)) ∧ w' = w := Any.strings_Count_one Tryz.lays138 s c w
def Tryz.sort95_ren : Go.Shelf.Ren := ⟨fun | 6 => 95 | 8 => 118 | 9 => 117 | 19 => 81 | 20 => 124 | 21 => 132 | 22 => 133 | 23 => 134 | 24 => 135 | 25 => 136 | 26 => 137 | 27 => 138 | 28 => 139 | 29 => 140 | 36 => 148 | 31 => 149 | 32 => 150 | 37 => 151 | 38 => 152 | 39 => 153 | 41 => 156 | n => n, fun | 27 => 22 | 29 => 9 | 3 => 3 | 32 => 150 | 26 => 22 | 0 => 0 | 44 => 27 | 46 => 124 | 4 => 4 | 36 => 198 | 35 => 197 | 41 => 115 | 5 => 5 | 9 => 9 | 53 => 204 | 57 => 208 | 63 => 218 | 64 => 219 | n => n, fun | n => n⟩
theorem Tryz.sort95 : Go.Proofs.SlLaysM.n6 Tryz.prog Tryz.sort95_ren := {
  mixed := by kernel_rfl
  f6 := ⟨Tryz.f95.name, by decide, Tryz.func95.trans (congrArg some (by kernel_rfl))⟩
  f8 := Tryz.func118.trans (congrArg some (by kernel_rfl))
  f9 := ⟨Tryz.f117.name, by decide, Tryz.func117.trans (congrArg some (by kernel_rfl))⟩
  f19 := Tryz.func81.trans (congrArg some (by kernel_rfl))
  f20 := Tryz.func124.trans (congrArg some (by kernel_rfl))
  f21 := ⟨Tryz.f132.name, by decide, Tryz.func132.trans (congrArg some (by kernel_rfl))⟩
  f22 := ⟨Tryz.f133.name, by decide, Tryz.func133.trans (congrArg some (by kernel_rfl))⟩
  f23 := ⟨Tryz.f134.name, by decide, Tryz.func134.trans (congrArg some (by kernel_rfl))⟩
  f24 := ⟨Tryz.f135.name, by decide, Tryz.func135.trans (congrArg some (by kernel_rfl))⟩
  f25 := ⟨Tryz.f136.name, by decide, Tryz.func136.trans (congrArg some (by kernel_rfl))⟩
  f26 := ⟨Tryz.f137.name, by decide, Tryz.func137.trans (congrArg some (by kernel_rfl))⟩
  f27 := ⟨Tryz.f138.name, by decide, Tryz.func138.trans (congrArg some (by kernel_rfl))⟩
  f28 := ⟨Tryz.f139.name, by decide, Tryz.func139.trans (congrArg some (by kernel_rfl))⟩
  f29 := ⟨Tryz.f140.name, by decide, Tryz.func140.trans (congrArg some (by kernel_rfl))⟩
  f31 := Tryz.func149.trans (congrArg some (by kernel_rfl))
  f32 := Tryz.func150.trans (congrArg some (by kernel_rfl))
  f36 := ⟨Tryz.f148.name, by decide, Tryz.func148.trans (congrArg some (by kernel_rfl))⟩
  f37 := ⟨Tryz.f151.name, by decide, Tryz.func151.trans (congrArg some (by kernel_rfl))⟩
  f38 := ⟨Tryz.f152.name, by decide, Tryz.func152.trans (congrArg some (by kernel_rfl))⟩
  f39 := ⟨Tryz.f153.name, by decide, Tryz.func153.trans (congrArg some (by kernel_rfl))⟩
  f41 := ⟨Tryz.f156.name, by decide, Tryz.func156.trans (congrArg some (by kernel_rfl))⟩
  t0 := Tryz.underlying0
  a0 := Tryz.isAgg0
  z0 := Tryz.sizeOf0
  v0 := Tryz.zeroValue0
  t3 := Tryz.underlying3
  a3 := Tryz.isAgg3
  z3 := Tryz.sizeOf3
  v3 := Tryz.zeroValue3
  t4 := Tryz.underlying4
  a4 := Tryz.isAgg4
  z4 := Tryz.sizeOf4
  v4 := Tryz.zeroValue4
  t5 := Tryz.underlying5
  a5 := Tryz.isAgg5
  z5 := Tryz.sizeOf5
  v5 := Tryz.zeroValue5
  t9 := Tryz.underlying9
  a9 := Tryz.isAgg9
  z9 := Tryz.sizeOf9
  v9 := Tryz.zeroValue9
  t26 := Tryz.underlying22
  a26 := Tryz.isAgg22
  z26 := Tryz.sizeOf22
  v26 := Tryz.zeroValue22
  t27 := Tryz.underlying22
  a27 := Tryz.isAgg22
  z27 := Tryz.sizeOf22
  v27 := Tryz.zeroValue22
  t29 := Tryz.underlying9
  a29 := Tryz.isAgg9
  z29 := Tryz.sizeOf9
  v29 := Tryz.zeroValue9
  t32 := Tryz.underlying150
  a32 := Tryz.isAgg150
  z32 := Tryz.sizeOf150
  v32 := Tryz.zeroValue150
  t35 := Tryz.underlying197
  a35 := Tryz.isAgg197
  z35 := Tryz.sizeOf197
  v35 := Tryz.zeroValue197
  t36 := Tryz.underlying198
  a36 := Tryz.isAgg198
  z36 := Tryz.sizeOf198
  v36 := Tryz.zeroValue198
  t41 := Tryz.underlying115
  a41 := Tryz.isAgg115
  z41 := Tryz.sizeOf115
  v41 := Tryz.zeroValue115
  t44 := Tryz.underlying27
  a44 := Tryz.isAgg27
  z44 := Tryz.sizeOf27
  v44 := Tryz.zeroValue27
  t46 := Tryz.underlying124
  a46 := Tryz.isAgg124
  z46 := Tryz.sizeOf124
  v46 := Tryz.zeroValue124
  t53 := Tryz.underlying204
  a53 := Tryz.isAgg204
  z53 := Tryz.sizeOf204
  v53 := Tryz.zeroValue204
  t57 := Tryz.underlying208
  a57 := Tryz.isAgg208
  z57 := Tryz.sizeOf208
  v57 := Tryz.zeroValue208
  t63 := Tryz.underlying218
  a63 := Tryz.isAgg218
  z63 := Tryz.sizeOf218
  v63 := Tryz.zeroValue218
  t64 := Tryz.underlying219
  a64 := Tryz.isAgg219
  z64 := Tryz.sizeOf219
  v64 := Tryz.zeroValue219 }
def Tryz.grow101_ren : Go.Shelf.Ren := ⟨fun | 4 => 101 | n => n, fun | 22 => 22 | 25 => 9 | 3 => 3 | 4 => 4 | 9 => 9 | 20 => 20 | 0 => 0 | n => n, fun | n => n⟩
theorem Tryz.grow101 : Go.Proofs.Lays8.n4 Tryz.prog Tryz.grow101_ren := {
  mixed := by kernel_rfl
  f4 := ⟨Tryz.f101.name, by decide, Tryz.func101.trans (congrArg some (by kernel_rfl))⟩
  t0 := Tryz.underlying0
  a0 := Tryz.isAgg0
  z0 := Tryz.sizeOf0
  v0 := Tryz.zeroValue0
  t3 := Tryz.underlying3
  a3 := Tryz.isAgg3
  z3 := Tryz.sizeOf3
  v3 := Tryz.zeroValue3
  t4 := Tryz.underlying4
  a4 := Tryz.isAgg4
  z4 := Tryz.sizeOf4
  v4 := Tryz.zeroValue4
  t9 := Tryz.underlying9
  a9 := Tryz.isAgg9
  z9 := Tryz.sizeOf9
  v9 := Tryz.zeroValue9
  t20 := Tryz.underlying20
  a20 := Tryz.isAgg20
  z20 := Tryz.sizeOf20
  v20 := Tryz.zeroValue20
  t22 := Tryz.underlying22
  a22 := Tryz.isAgg22
  z22 := Tryz.sizeOf22
  v22 := Tryz.zeroValue22 }
end Go.Proofs

set_option linter.unusedSimpArgs false
set_option linter.unusedVariables false
set_option linter.unusedSectionVars false
namespace Go.Proofs.YthbdeaeghipliaaGreatDoor
open Go.RowKit Go.Shelf Go.Sort Go.Maps

attribute [local go_sem] Oper.semAt_some

/-- The strings as lists of bytes, and back. -/
def bytesOf (zs : List ByteArray) : List (List UInt8) := zs.map fun z => z.data.toList
def sortS (zs : List ByteArray) : List ByteArray := ((bytesOf zs).mergeSort fun x y => decide (x ≤ y)).map fun l => ⟨l.toArray⟩
theorem bytesOf_enc (zs : List ByteArray) : (bytesOf zs).map encStr = zs.map Value.string := by
  simp [bytesOf, List.map_map]
theorem sortS_enc (zs : List ByteArray) : ((bytesOf zs).mergeSort fun x y => decide (x ≤ y)).map encStr = (sortS zs).map Value.string := by
  simp [sortS, List.map_map]

set_option maxHeartbeats 1000000 in
theorem collect_in (F : Fence) (n : Nat) (h38 : F.fn 94) (h48 : F.fn 116) (h40 : F.fn 96) (hro : F.round = none) (hn : 4 ≤ n) (Bs Bo : Nat) (sv : Value) (zs : List ByteArray) (hlen : zs.length ≤ 1000) (w : World) (hBs : Bs < w.heap.size) (hc : w.cell? ⟨Bs, Bo, none⟩ = some sv) (hI : Strs w.heap.size w sv zs) :
    CallsIn F n Tryz.prog 94 #[.func (.func 96) #[] #[.pointer (some ⟨Bs, Bo, none⟩)]] w fun e W' => ∃ v, e = .returned v ∧ W'.ownsRow w.heap.size 9 1 v zs.length (zs.map Value.string) ∧ (v = .slice none 0 0 ↔ zs = []) ∧ Below w.heap.size w W' := by
  refine callsIn_of_wp Tryz.func94 rfl h38 ?_ hro
  have h1 : 1 ≤ n := by omega
  simp only [Tryz.ntmps94, List.size_toArray, List.length_cons, List.length_nil, Nat.reduceAdd, Nat.reduceSub, Array.replicate_succ, Array.replicate_zero, List.push_toArray, List.append_toArray, List.nil_append, List.cons_append]
  gi_wp2_with (gi_at_call 116; refine (appendSeq_in F (n - 1) h48 h40 hro (by omega) Bs Bo sv zs hlen _ hBs hc hI).mono ?_; rintro e w' ⟨v, rfl, hrow, hnil, hb⟩)
  go_ret
  exact ⟨v, rfl, hrow, hnil, hb⟩

set_option maxRecDepth 100000 in
set_option maxHeartbeats 2000000 in
theorem sorted_in (F : Fence) (n : Nat) (hF : F = Fence.wide) (hn : 5 ≤ n) (Bs Bo : Nat) (sv : Value) (zs : List ByteArray) (hlen : zs.length ≤ 1000) (w : World) (hBs : Bs < w.heap.size) (hc : w.cell? ⟨Bs, Bo, none⟩ = some sv) (hI : Strs w.heap.size w sv zs) :
    CallsIn F n Tryz.prog 65 #[.func (.func 96) #[] #[.pointer (some ⟨Bs, Bo, none⟩)]] w fun e W' => ∃ v, e = .returned v ∧ W'.ownsRow w.heap.size 9 1 v zs.length ((sortS zs).map Value.string) ∧ (zs = [] → v = .slice none 0 0) ∧ Below w.heap.size w W' := by
  subst hF
  have h1 : 1 ≤ n := by omega
  have h38 : Fence.wide.fn 94 := trivial
  have h39 : Fence.wide.fn 95 := trivial
  refine callsIn_of_wp Tryz.func65 rfl trivial ?_ rfl
  simp only [Tryz.ntmps65, List.size_toArray, List.length_cons, List.length_nil, Nat.reduceAdd, Nat.reduceSub, Array.replicate_succ, Array.replicate_zero, List.push_toArray, List.append_toArray, List.nil_append, List.cons_append]
  gi_wp2_with (gi_at_call 94; refine (collect_in Fence.wide (n - 1) trivial trivial trivial rfl (by omega) Bs Bo sv zs hlen _ hBs hc hI).mono ?_; rintro e W ⟨v, rfl, hrow, hnil, hb⟩)
  rcases hrow.2 with ⟨rfl, hz⟩ | ⟨gb, cap, cur, rfl, hbase, hgb, r1, r2, r3, r4⟩
  · have hzs : zs = [] := List.eq_nil_of_length_eq_zero hz
    subst hzs
    gi_wp2_with (gi_at_call 95; refine (callsIn_wide.2 (AnyM.slices_Sort_string_none Tryz.sort95 none 0 W)).mono ?_; rintro e w' ⟨rfl, rfl⟩)
    go_ret
    exact ⟨.slice none 0 0, rfl, by simpa [sortS, bytesOf] using hrow, by simp, hb⟩
  · have hH : Holds encStr W gb 0 (bytesOf zs).toArray := holds_of_block hgb (by rw [bytesOf_enc]; simpa [bytesOf] using r4)
    have hgl : gb < W.heap.size := (Array.getElem?_eq_some_iff.1 hgb).1
    have hbl : (bytesOf zs).length = zs.length := by simp [bytesOf]
    have hsz : (bytesOf zs).length < 4611686018427387904 := by omega
    have cS := AnyM.slices_Sort_string Tryz.sort95 gb 0 cap (bytesOf zs) W hH hgl hsz
    rw [hbl] at cS
    gi_wp2_with (gi_at_call 95; refine (callsIn_wide.2 cS).mono ?_; rintro e w' ⟨rfl, nn, os, rfl⟩)
    go_ret
    refine ⟨_, rfl, ?_, hnil.2, hb.grown (grownBy_sorted _) hb.size (fun j hj => by cases hj; exact hbase)⟩
    have := ownsRow_sorted (n := nn) (os := os) (ss := bytesOf zs) (ts := (bytesOf zs).mergeSort fun x y => decide (x ≤ y)) (by simp) hbase hgb (by rw [hbl]; exact r1) r2 r3
    rw [sortS_enc, hbl] at this
    exact this

theorem sorted30 (Bs Bo : Nat) (sv : Value) (zs : List ByteArray) (hlen : zs.length ≤ 1000) (w : World) (hBs : Bs < w.heap.size) (hc : w.cell? ⟨Bs, Bo, none⟩ = some sv) (hI : Strs w.heap.size w sv zs) :
    Calls Tryz.prog 65 #[.func (.func 96) #[] #[.pointer (some ⟨Bs, Bo, none⟩)]] w fun e W' => ∃ v, e = .returned v ∧ W'.ownsRow w.heap.size 9 1 v zs.length ((sortS zs).map Value.string) ∧ (zs = [] → v = .slice none 0 0) ∧ Below w.heap.size w W' :=
  callsIn_wide.1 (sorted_in Fence.wide 6 rfl (by omega) Bs Bo sv zs hlen w hBs hc hI)
end Go.Proofs.YthbdeaeghipliaaGreatDoor

set_option linter.unusedSimpArgs false
set_option linter.unusedVariables false
set_option linter.unusedSectionVars false
namespace Go.Proofs.YthbdeaeghipliaaGreatDoor
open Go.Clo

theorem enters30 : Go.Clo.Enters Tryz.prog 65 := ⟨_, _, Tryz.func65, rfl, by kernel_rfl⟩
theorem enters33 : Go.Clo.Enters Tryz.prog 48 := ⟨_, _, Tryz.func48, rfl, by kernel_rfl⟩
theorem enters46 : Go.Clo.Enters Tryz.prog 98 := ⟨_, _, Tryz.func98, rfl, by kernel_rfl⟩
theorem enters47 : Go.Clo.Enters Tryz.prog 99 := ⟨_, _, Tryz.func99, rfl, by kernel_rfl⟩

theorem count46 (s : ByteArray) (c : UInt8) (H : Heap) (nx : Nat) : Ans Tryz.prog 98 [.string s, .string ⟨#[c]⟩] H nx fun r H' nx' => .int .i64 (Lib.countByte s.data.toList c) = r ∧ H = H' ∧ nx = nx' :=
  ans_flat enters46 rfl rfl (fun w => Tryz.strings_Count_one s c w) H nx
theorem index47 (s : ByteArray) (c : UInt8) (H : Heap) (nx : Nat) : Ans Tryz.prog 99 [.string s, .string ⟨#[c]⟩] H nx fun r H' nx' => .int .i64 (Lib.indexByte s.data.toList c) = r ∧ H = H' ∧ nx = nx' :=
  ans_flat enters47 rfl rfl (fun w => Tryz.strings_Index_one s c w) H nx

/-- The parts, with the separator between them. -/
def joinS (xs : List ByteArray) (sep : ByteArray) : ByteArray := ⟨(Lib.join (xs.map (·.data.toList)) sep.data.toList).toArray⟩
theorem join33 (A : Option Addr) (xs : List ByteArray) (sep : ByteArray) (cap : Nat) (H : Heap) (nx : Nat) (hS : Sl H nx A (strs xs)) (h0 : 0 < xs.length) (hcap : xs.length ≤ cap) (hN : xs.length ≤ 1000000) (hlen : (joinS xs sep).size ≤ 1000000) :
    Ans Tryz.prog 48 [.slice A xs.length cap, .string sep] H nx fun r H' nx' => .string (joinS xs sep) = r ∧ H = H' ∧ nx = nx' := by
  refine ⟨_, H, nx, ⟨enters33, fun F args' w hh hl => ?_⟩, rfl, rfl, rfl⟩
  obtain ⟨b, o, row, rfl, hb, hrow, hget⟩ := hS.open (i := 0) (by rw [strs_length]; exact h0)
  cases hl with
  | cons ha hl =>
  cases hl with
  | cons hs hl =>
  cases hl
  cases hs
  obtain ⟨_, t, c', hF, rfl, hc⟩ := ha.slice_inv
  have hcells : ∀ (j : Nat) x, xs[j]? = some x → w.cell? ⟨t.blk, t.base + o + j, none⟩ = some (.string x) := fun j x hx => by
    obtain ⟨v', h1, h2⟩ := cell_of_sl hh hF hS (strs_get hx)
    cases h2
    exact h1
  have hcc : xs.length ≤ c' := by rcases hc with h | h <;> omega
  have hlen' : (Lib.join (xs.map (·.data.toList)) sep.data.toList).length ≤ 140737488355328 := by
    have : (joinS xs sep).size = (Lib.join (xs.map (·.data.toList)) sep.data.toList).length := by simp [joinS, ByteArray.size]
    omega
  refine (Tryz.strings_Join t.blk (t.base + o) c' xs sep w hcells (blk_of_sl hh hF hS (by rw [strs_length]; exact h0)) (by omega) hcc hlen').mono fun e w' ⟨he, hb⟩ => ?_
  exact ⟨_, F, he, .string _, Stp.below hh hb⟩

theorem sortedA (q : Nat) (A : Option Addr) (zs : List ByteArray) (cap : Nat) (H : Heap) (nx : Nat) (hq : getH H q = some (.cells [.slice A zs.length cap] 0)) (hqn : q < nx) (hS : Sl H nx A (strs zs)) (hA0 : Has H nx A) (hcap : A = none → cap = 0) (hlen : zs.length ≤ 1000) :
    Ans Tryz.prog 65 [.func (.func 96) ⟨[]⟩ ⟨[.pointer (some ⟨q, 0, none⟩)]⟩] H nx fun r H' nx' => Acc nx H' nx' 1 r zs.length (strs (sortS zs)) ∧ Ext H nx H' nx' := by
  have real : ∀ (F : FM) (args' : List Value) (w : World), HR F H nx w → VL F [.func (.func 96) ⟨[]⟩ ⟨[.pointer (some ⟨q, 0, none⟩)]⟩] args' →
      Calls Tryz.prog 65 args'.toArray w fun e w' => ∃ v, e = .returned v ∧ w'.ownsRow w.heap.size 9 1 v zs.length ((sortS zs).map Value.string) ∧ (zs = [] → v = .slice none 0 0) ∧ RowKit.Below w.heap.size w w' := by
    intro F args' w hh hl
    cases hl with
    | cons ha hl =>
    cases hl
    cases ha with
    | @func _ _ x' _ y' h1 _ h3 h4 =>
    obtain rfl : x' = #[] := by simpa using h1.symm
    obtain ⟨p, rfl⟩ : ∃ p, y' = #[p] := by
      have : y'.toList.length = 1 := by simpa using h3.symm
      match hy : y'.toList, this with
      | [p], _ => exact ⟨p, by rw [← Array.toArray_toList (xs := y'), hy]⟩
    obtain ⟨_, t, hF, rfl⟩ := (h4 0 _ _ rfl rfl).ptr_inv
    obtain ⟨c', e, hw, hsz, hts, hte, hle, hvl⟩ := hh.hb.get hF hq
    -- the box in the world
    obtain ⟨sv, hsv, hvr⟩ := hvl.some (i := 0) rfl
    rw [List.getElem?_take, if_pos (by simp), List.getElem?_drop, Array.getElem?_toList] at hsv
    have hcell : w.cell? ⟨t.blk, t.base + 0, none⟩ = some sv := by simp [World.cell?, hw]; simpa using hsv
    have hlt : t.blk < w.heap.size := (Array.getElem?_eq_some_iff.1 hw).1
    refine sorted30 t.blk (t.base + 0) sv zs hlen w hlt hcell ?_
    cases zs with
    | nil =>
      rcases hA0 with rfl | ⟨b, o, row, rfl, hb, hrow⟩
      · have := hvr.sliceN_inv
        rw [hcap rfl] at this
        exact .inl ⟨this, rfl⟩
      · obtain ⟨_, tt, cc, hF2, rfl, hc⟩ := hvr.slice_inv
        refine .inr ⟨tt.blk, tt.base + o, cc, rfl, ?_, fun j hj => by simp at hj⟩
        unfold rowOf at hrow
        cases hg : getH H b with
        | none => rw [hg] at hrow; cases hrow
        | some blk => exact (hh.hb.get hF2 hg).lt
    | cons z zs =>
      obtain ⟨b, o, row, rfl, hb, hrow, hget⟩ := hS.open (i := 0) (by simp [strs])
      obtain ⟨_, tt, cc, hF2, rfl, hc⟩ := hvr.slice_inv
      refine .inr ⟨tt.blk, tt.base + o, cc, rfl, blk_of_sl hh hF2 hS (by simp [strs]), fun j hj => ?_⟩
      obtain ⟨v', g1, g2⟩ := cell_of_sl hh hF2 hS (strs_get (List.getElem?_eq_getElem hj))
      cases g2
      rw [g1, List.getElem?_eq_getElem hj]; rfl
  by_cases hz : zs = []
  · subst hz
    refine ⟨.slice none 0 0, H, nx, ⟨enters30, fun F args' w hh hl => (real F args' w hh hl).mono fun e w' ⟨v, he, hrow, hnil, hb⟩ => ?_⟩, ⟨by simp [sortS, bytesOf, strs], .inl ⟨rfl, rfl⟩⟩, Ext.refl _ _⟩
    have := hnil rfl
    subst this
    exact ⟨_, F, he, .sliceN _ _, Stp.below hh hb⟩
  · have hpos : 0 < zs.length := List.length_pos_iff.2 hz
    have hsl : (strs (sortS zs)).length = zs.length := by simp [strs, sortS, bytesOf]
    refine ⟨.slice (some ⟨nx, 0, none⟩) zs.length zs.length, hs H nx (some (.cells (strs (sortS zs)) 1)), nx + 1, ⟨enters30, fun F args' w hh hl => (real F args' w hh hl).mono fun e w' ⟨v, he, hrow, hnil, hb⟩ => ?_⟩, ?_, (Ext.refl H nx).new _ (Nat.le_refl _) (by omega)⟩
    · rcases hrow.2 with ⟨_, h0⟩ | ⟨g, cp, cur, rfl, hg, hc, h1, _, h3, h4⟩
      · omega
      · obtain ⟨F', hvr, hst⟩ := Stp.row (xs := strs (sortS zs)) hh hb hg hc (by rw [hsl]; exact h1) (by simpa using h3) (by rw [hsl]; simpa [strs] using h4) (strs_flat _)
        rw [hsl] at hvr
        exact ⟨_, F', he, hvr, hst⟩
    · have := Acc.of_new H nx (strs (sortS zs))
      rw [hsl] at this
      exact this
end Go.Proofs.YthbdeaeghipliaaGreatDoor

set_option linter.unusedSimpArgs false
set_option linter.unusedVariables false
set_option linter.unusedSectionVars false
namespace Go.Proofs.YthbdeaeghipliaaGreatDoor
open Go.Clo

theorem wVf_sidx {s : ByteArray} {i : Nat} {c : UInt8} (h : s[i]? = some c) (K : IntKind) (k : VP) : wVf .sidx [.string s, .int K (i : Int)] k = k (.int .u8 (c.toNat : Int)) := by
  have e : VF.ev .sidx [.string s, .int K (i : Int)] = some (.int .u8 (c.toNat : Int)) := by
    show idxV s (i : Int) = _
    unfold idxV
    rw [if_pos (by omega), Int.toNat_natCast, h]; rfl
  unfold wVf
  rw [e, optK_eq]; rfl
theorem wVf_take {s : ByteArray} {h : Nat} (hh : h ≤ s.size) (k : VP) : wVf (.ssl false true) [.string s, .int .i64 (h : Int)] k = k (.string (s.extract 0 h)) := by
  have e : VF.ev (.ssl false true) [.string s, .int .i64 (h : Int)] = some (.string (s.extract 0 h)) := by
    show sslV s none (some (.int .i64 (h : Int))) = _
    have : boundA (some (.int .i64 (h : Int))) s.size = some h := by
      show (cond (Nat.ble h s.size) (some h) none) = some h
      rw [bltrue hh]; rfl
    simp only [sslV, this]
  unfold wVf
  rw [e, optK_eq]; rfl
theorem byte_at {s : ByteArray} {i : Nat} (h : i < s.size) : ∃ c : UInt8, s[i]? = some c := ⟨_, getElem?_pos s i h⟩
theorem byte_list {s : ByteArray} {i : Nat} : s[i]? = s.data.toList[i]? := by
  by_cases h : i < s.size
  · rw [getElem?_pos s i h, Array.getElem?_toList, getElem?_pos s.data i h]; rfl
  · rw [getElem?_neg s i h, Array.getElem?_toList, getElem?_neg s.data i h]

def letterB (c : UInt8) : Bool := (decide (65 ≤ c.toNat) && decide (c.toNat ≤ 90)) || (decide (97 ≤ c.toNat) && decide (c.toNat ≤ 122))
def restB (c : UInt8) : Bool := decide (c.toNat = 95) || (decide (48 ≤ c.toNat) && decide (c.toNat ≤ 57))
/-- A letter, and at most 15 letters, digits and underscores. -/
def NameOK (s : ByteArray) : Prop := 1 ≤ s.size ∧ s.size ≤ 16 ∧ ∀ (i : Nat) (c : UInt8), s[i]? = some c → letterB c = true ∨ (i ≠ 0 ∧ restB c = true)

theorem letter53 (c : UInt8) (H : Heap) (nx : Nat) : Ans Tryz.prog 129 [.int .u8 (c.toNat : Int)] H nx fun r H' nx' => .bool (letterB c) = r ∧ H = H' ∧ nx = nx' := by
  refine spec129 ?_
  unfold F129 letterB
  generalize c.toNat = x
  by_cases h1 : 65 ≤ x <;> by_cases h2 : x ≤ 90 <;> by_cases h3 : 97 ≤ x <;> by_cases h4 : x ≤ 122 <;>
    (have e1 : decide ((65 : Int) ≤ (x : Int)) = decide (65 ≤ x) := by congr 1; apply propext; omega
     have e2 : decide ((x : Int) ≤ 90) = decide (x ≤ 90) := by congr 1; apply propext; omega
     have e3 : decide ((97 : Int) ≤ (x : Int)) = decide (97 ≤ x) := by congr 1; apply propext; omega
     have e4 : decide ((x : Int) ≤ 122) = decide (x ≤ 122) := by congr 1; apply propext; omega
     simp (disch := first | omega | assumption | exact shr_lt (by assumption) | exact ndiff32 (by assumption) | exact below_lt (by omega) | fail) only [wBin_leq, wBin_geq, wGuard_true, wGuard_false, forceV_eq, decide_true, decide_false, if_true, if_false, Bool.false_eq_true, and_true, and_self, e1, e2, e3, e4, h1, h2, h3, h4]
     try simp)

set_option maxHeartbeats 2000000 in
theorem plain44 (s : ByteArray) (H : Heap) (nx : Nat) (hs : s.size ≤ 1000000) : Ans Tryz.prog 107 [.string s] H nx fun r H' nx' => (∃ c : Bool, r = .bool c ∧ (c = true ↔ NameOK s)) ∧ H = H' ∧ nx = nx' := by
  refine spec107 ?_
  unfold F107
  by_cases h1 : s.size < 1
  · have d1 : (s.size : Int) < 1 := by omega
    simp (disch := first | omega | assumption | exact shr_lt (by assumption) | exact ndiff32 (by assumption) | exact below_lt (by omega) | fail) only [List.getD_cons_zero, wBin_lss, wBin_gtr, wIf_bool, wGuard_true, wGuard_false, wUn_not, wLen_string, forceV_eq, decide_true, if_true, if_false, Bool.false_eq_true, and_true, Bool.not_false, and_self, wJoin_eq, d1]
    exact ⟨false, rfl, by simp, fun h => by have := h.1; omega⟩
  have d1 : ¬ (s.size : Int) < 1 := by omega
  by_cases h2 : 16 < s.size
  · have d2 : (16 : Int) < (s.size : Int) := by omega
    simp (disch := first | omega | assumption | exact shr_lt (by assumption) | exact ndiff32 (by assumption) | exact below_lt (by omega) | fail) only [List.getD_cons_zero, wBin_lss, wBin_gtr, wIf_bool, wGuard_true, wGuard_false, wUn_not, wLen_string, forceV_eq, decide_true, decide_false, if_true, if_false, Bool.false_eq_true, and_true, Bool.not_false, and_self, wJoin_eq, d1, d2]
    exact ⟨false, rfl, by simp, fun h => by have := h.2.1; omega⟩
  have d2 : ¬ (16 : Int) < (s.size : Int) := by omega
  obtain ⟨c0, hc0⟩ := byte_at (s := s) (i := 0) (by omega)
  have e0 : ∀ k, wVf .sidx [.string s, .int .i64 0] k = k (.int .u8 (c0.toNat : Int)) := fun k => wVf_sidx (i := 0) hc0 .i64 k
  simp (disch := first | omega | assumption | exact shr_lt (by assumption) | exact ndiff32 (by assumption) | exact below_lt (by omega) | fail) only [List.getD_cons_zero, wBin_lss, wBin_gtr, wIf_bool, wGuard_true, wGuard_false, wUn_not, wLen_string, forceV_eq, decide_false, if_true, if_false, Bool.false_eq_true, Bool.not_false, wJoin_eq, d1, d2, e0]
  refine wCall_rule (letter53 c0 H nx) ?_
  rintro _ _ _ ⟨rfl, rfl, rfl⟩
  cases hl0 : letterB c0 with
  | false =>
    simp (disch := first | omega | assumption | exact shr_lt (by assumption) | exact ndiff32 (by assumption) | exact below_lt (by omega) | fail) only [wIf_bool, wUn_not, if_true, and_true, Bool.not_false, and_self]
    exact ⟨false, rfl, by simp, fun h => by
      rcases h.2.2 0 c0 hc0 with g | g
      · rw [hl0] at g; cases g
      · exact absurd rfl g.1⟩
  | true =>
    simp (disch := first | omega | assumption | exact shr_lt (by assumption) | exact ndiff32 (by assumption) | exact below_lt (by omega) | fail) only [wIf_bool, wUn_not, if_false, Bool.false_eq_true, and_true, Bool.not_true, and_self]
    refine wLoop_rule (fun m L H' nx' => ∃ i : Nat, m + i = s.size ∧ 1 ≤ i ∧ L = [.int .i64 (i : Int)] ∧ (∀ (j : Nat) (c : UInt8), j < i → s[j]? = some c → letterB c = true ∨ (j ≠ 0 ∧ restB c = true)) ∧ H = H' ∧ nx = nx') ?_ (m := s.size - 1) ⟨1, by omega, Nat.le_refl _, rfl, fun j c hj hc => by
      have : j = 0 := by omega
      subst this
      rw [hc0] at hc; cases hc; exact .inl hl0, rfl, rfl⟩
    rintro m ih L _ _ ⟨i, hm, hi1, rfl, hst, rfl, rfl⟩ hih
    simp (disch := first | omega | assumption | exact shr_lt (by assumption) | exact ndiff32 (by assumption) | exact below_lt (by omega) | fail) only [List.getD_cons_zero, wBin_lss, wIf_bool, and_true, and_self, wBin_add64]
    by_cases hi : i < s.size
    · have hi' : (i : Int) < (s.size : Int) := by omega
      obtain ⟨c, hc⟩ := byte_at hi
      have ec := fun k => wVf_sidx hc .i64 k
      have next : (letterB c = true ∨ restB c = true) → ih [.int .i64 ((i : Int) + 1)] H nx := fun h =>
        hih (m - 1) _ _ _ (by omega) ⟨i + 1, by omega, by omega, by simp, fun j c' hj hc' => by
          by_cases hji : j = i
          · subst hji
            rw [hc] at hc'; cases hc'
            exact h.imp id fun h => ⟨by omega, h⟩
          · exact hst j c' (by omega) hc', rfl, rfl⟩
      have bad : letterB c = false → restB c = false → ∃ c' : Bool, Value.bool false = .bool c' ∧ (c' = true ↔ NameOK s) := fun g1 g2 => ⟨false, rfl, by simp, fun h => by
        rcases h.2.2 i c hc with g | g
        · rw [g1] at g; cases g
        · rw [g2] at g; cases g.2⟩
      simp (disch := first | omega | assumption | exact shr_lt (by assumption) | exact ndiff32 (by assumption) | exact below_lt (by omega) | fail) only [wBin_leq, wBin_geq, wBin_neq, wIf_bool, wGuard_true, wUn_not, decide_true, if_true, hi', ec]
      refine wCall_rule (letter53 c H nx) ?_
      rintro _ _ _ ⟨rfl, rfl, rfl⟩
      cases hl : letterB c with
      | true =>
        simp (disch := first | omega | assumption | exact shr_lt (by assumption) | exact ndiff32 (by assumption) | exact below_lt (by omega) | fail) only [wGuard_true, wUn_not, if_false, Bool.false_eq_true, and_true, Bool.not_true, and_self]
        exact next (.inl hl)
      | false =>
        by_cases q1 : 48 ≤ c.toNat
        · have q1' : (48 : Int) ≤ (c.toNat : Int) := by omega
          by_cases q2 : c.toNat ≤ 57
          · have q2' : (c.toNat : Int) ≤ 57 := by omega
            simp (disch := first | omega | assumption | exact shr_lt (by assumption) | exact ndiff32 (by assumption) | exact below_lt (by omega) | fail) only [wGuard_true, wUn_not, decide_true, if_true, if_false, Bool.false_eq_true, and_true, Bool.not_true, Bool.not_false, and_self, q1', q2']
            exact next (.inr (by simp [restB, q1, q2]))
          · have q2' : ¬ (c.toNat : Int) ≤ 57 := by omega
            by_cases q3 : c.toNat = 95
            · have q3' : decide ((c.toNat : Int) ≠ 95) = false := by simp; omega
              simp (disch := first | omega | assumption | exact shr_lt (by assumption) | exact ndiff32 (by assumption) | exact below_lt (by omega) | fail) only [wGuard_true, wUn_not, decide_true, decide_false, if_true, if_false, Bool.false_eq_true, and_true, Bool.not_false, and_self, q1', q2', q3']
              exact next (.inr (by simp [restB, q3]))
            · have q3' : decide ((c.toNat : Int) ≠ 95) = true := by simp; omega
              simp (disch := first | omega | assumption | exact shr_lt (by assumption) | exact ndiff32 (by assumption) | exact below_lt (by omega) | fail) only [wGuard_true, wUn_not, decide_true, decide_false, if_true, and_true, Bool.not_false, and_self, q1', q2', q3']
              exact bad hl (by simp [restB, q3, q2])
        · have q1' : ¬ (48 : Int) ≤ (c.toNat : Int) := by omega
          have q3' : decide ((c.toNat : Int) ≠ 95) = true := by simp; omega
          simp (disch := first | omega | assumption | exact shr_lt (by assumption) | exact ndiff32 (by assumption) | exact below_lt (by omega) | fail) only [wGuard_true, wUn_not, decide_false, if_true, if_false, Bool.false_eq_true, and_true, Bool.not_false, and_self, q1', q3']
          exact bad hl (by simp [restB, q1]; omega)
    · have hi' : ¬ (i : Int) < (s.size : Int) := by omega
      simp (disch := first | omega | assumption | exact shr_lt (by assumption) | exact ndiff32 (by assumption) | exact below_lt (by omega) | fail) only [decide_false, if_false, Bool.false_eq_true, hi']
      exact ⟨true, rfl, fun _ => ⟨by omega, by omega, fun j c hc => hst j c (by
        rcases Nat.lt_or_ge j s.size with g | g
        · omega
        · rw [getElem?_neg s j (by omega)] at hc; cases hc) hc⟩, fun _ => rfl⟩
end Go.Proofs.YthbdeaeghipliaaGreatDoor

set_option linter.unusedSimpArgs false
set_option linter.unusedVariables false
set_option linter.unusedSectionVars false
namespace Go.Proofs.YthbdeaeghipliaaGreatDoor
open Go.Clo

theorem bytes_eq {a b : ByteArray} (h : a.toList = b.toList) : a = b := by
  rw [ByteArray.toList_eq, ByteArray.toList_eq] at h
  cases a; cases b; simpa using h
theorem wBin_streq (a b : ByteArray) (k : VP) : wBin .eql (.string a) (.string b) k = k (.bool (decide (a = b))) := by
  rw [wBin_eq]
  have e : (a.toList == b.toList) = decide (a = b) := by
    rw [Bool.eq_iff_iff, beq_iff_eq, decide_eq_true_eq]
    exact ⟨fun h => bytes_eq h, fun h => by rw [h]⟩
  simp only [binV, strV, Option.elim_some, e]

set_option maxHeartbeats 2000000 in
theorem catalog37 (s : ByteArray) (H : Heap) (nx : Nat) (hs : s.size ≤ 1000000) : Ans Tryz.prog 93 [.string s] H nx fun r H' nx' => (∃ c : Bool, r = .bool c ∧ (c = true ↔ NameOK s)) ∧ H = H' ∧ nx = nx' := by
  refine spec93 ?_
  unfold F93
  by_cases h1 : s = ⟨#[]⟩
  · have d1 : decide (s = ⟨#[]⟩) = true := by simp [h1]
    simp (disch := first | omega | assumption | exact shr_lt (by assumption) | exact ndiff32 (by assumption) | exact below_lt (by omega) | fail) only [List.getD_cons_zero, wBin_gtr, wIf_bool, wGuard_true, wGuard_false, wUn_not, wLen_string, forceV_eq, if_true, if_false, Bool.false_eq_true, and_true, Bool.not_true, Bool.not_false, and_self, wJoin_eq, wBin_streq, d1]
    exact ⟨false, rfl, by simp, fun h => by have := h.1; rw [h1] at this; exact absurd this (by decide)⟩
  have d1 : decide (s = ⟨#[]⟩) = false := by simp [h1]
  have h0 : 1 ≤ s.size := by
    rcases Nat.eq_zero_or_pos s.size with h | h
    · exact absurd (by cases s with | mk d => have : d = #[] := Array.eq_empty_of_size_eq_zero h; rw [this]) h1
    · exact h
  by_cases h2 : 16 < s.size
  · have d2 : (16 : Int) < (s.size : Int) := by omega
    simp (disch := first | omega | assumption | exact shr_lt (by assumption) | exact ndiff32 (by assumption) | exact below_lt (by omega) | fail) only [List.getD_cons_zero, wBin_gtr, wIf_bool, wGuard_true, wGuard_false, wUn_not, wLen_string, forceV_eq, decide_true, if_true, if_false, Bool.false_eq_true, and_true, Bool.not_true, Bool.not_false, and_self, wJoin_eq, wBin_streq, d1, d2]
    exact ⟨false, rfl, by simp, fun h => by have := h.2.1; omega⟩
  have d2 : ¬ (16 : Int) < (s.size : Int) := by omega
  refine wJoin_rule (fun L H' nx' => L = [.bool false] ∧ H = H' ∧ nx = nx') ?_ ?_
  · intro j hj
    simp (disch := first | omega | assumption | exact shr_lt (by assumption) | exact ndiff32 (by assumption) | exact below_lt (by omega) | fail) only [wBin_gtr, wGuard_false, wLen_string, decide_false, if_false, Bool.false_eq_true, wBin_streq, d1, d2]
    exact hj _ _ _ ⟨rfl, rfl, rfl⟩
  rintro _ _ _ ⟨rfl, rfl, rfl⟩
  simp (disch := first | omega | assumption | exact shr_lt (by assumption) | exact ndiff32 (by assumption) | exact below_lt (by omega) | fail) only [List.getD_cons_zero, wIf_bool, wLen_string, forceV_eq, if_false, Bool.false_eq_true, and_true, and_self]
  refine wLoop_rule (fun m L H' nx' => ∃ i : Nat, m + i = s.size ∧ L = [.int .i64 (i : Int)] ∧ (∀ (j : Nat) (c : UInt8), j < i → s[j]? = some c → letterB c = true ∨ (j ≠ 0 ∧ restB c = true)) ∧ H = H' ∧ nx = nx') ?_ (m := s.size) ⟨0, by omega, rfl, fun j c hj hc => by omega, rfl, rfl⟩
  rintro m ih L _ _ ⟨i, hm, rfl, hst, rfl, rfl⟩ hih
  simp (disch := first | omega | assumption | exact shr_lt (by assumption) | exact ndiff32 (by assumption) | exact below_lt (by omega) | fail) only [List.getD_cons_zero, wBin_lss, wBin_eql, wIf_bool, wGuard_false, and_true, and_self, wBin_add64, u32_eq_zero]
  by_cases hi : i < s.size
  · have hi' : (i : Int) < (s.size : Int) := by omega
    obtain ⟨c, hc⟩ := byte_at hi
    have ec := fun k => wVf_sidx hc .i64 k
    have next : (letterB c = true ∨ (i ≠ 0 ∧ restB c = true)) → ih [.int .i64 ((i : Int) + 1)] H nx := fun h =>
      hih (m - 1) _ _ _ (by omega) ⟨i + 1, by omega, by simp, fun j c' hj hc' => by
        by_cases hji : j = i
        · subst hji
          rw [hc] at hc'; cases hc'
          exact h
        · exact hst j c' (by omega) hc', rfl, rfl⟩
    have bad : letterB c = false → (i = 0 ∨ restB c = false) → ∃ c' : Bool, Value.bool false = .bool c' ∧ (c' = true ↔ NameOK s) := fun g1 g2 => ⟨false, rfl, by simp, fun h => by
      rcases h.2.2 i c hc with g | g
      · rw [g1] at g; cases g
      · rcases g2 with g2 | g2
        · exact absurd g2 g.1
        · rw [g2] at g; cases g.2⟩
    simp (config := { maxSteps := 2000000 }) (disch := first | omega | assumption | exact shr_lt (by assumption) | exact ndiff32 (by assumption) | exact below_lt (by omega) | fail) only [wBin_lss, wBin_leq, wBin_gtr, wBin_geq, wBin_neq, wGuard_true, wGuard_false, decide_true, if_true, hi', ec]
    refine wJoin_rule (fun L H' nx' => L = [.bool (letterB c)] ∧ H = H' ∧ nx = nx') ?_ ?_
    · intro j hj
      have fin : ∀ b : Bool, letterB c = b → j [.bool b] H nx := fun b hb => hj _ _ _ ⟨by rw [hb], rfl, rfl⟩
      by_cases q1 : 97 ≤ c.toNat
      · have q1' : (97 : Int) ≤ (c.toNat : Int) := by omega
        by_cases q2 : c.toNat ≤ 122
        · have q2' : (c.toNat : Int) ≤ 122 := by omega
          simp (disch := first | omega | assumption | exact shr_lt (by assumption) | exact ndiff32 (by assumption) | exact below_lt (by omega) | fail) only [decide_true, if_true, q1', q2']
          exact fin _ (by simp [letterB, q1, q2])
        · have q2' : ¬ (c.toNat : Int) ≤ 122 := by omega
          have q3' : (65 : Int) ≤ (c.toNat : Int) := by omega
          have q4' : ¬ (c.toNat : Int) ≤ 90 := by omega
          simp (disch := first | omega | assumption | exact shr_lt (by assumption) | exact ndiff32 (by assumption) | exact below_lt (by omega) | fail) only [decide_true, decide_false, if_true, if_false, Bool.false_eq_true, q1', q2', q3', q4']
          exact fin _ (by simp [letterB]; omega)
      · have q1' : ¬ (97 : Int) ≤ (c.toNat : Int) := by omega
        by_cases q3 : 65 ≤ c.toNat
        · have q3' : (65 : Int) ≤ (c.toNat : Int) := by omega
          by_cases q4 : c.toNat ≤ 90
          · have q4' : (c.toNat : Int) ≤ 90 := by omega
            simp (disch := first | omega | assumption | exact shr_lt (by assumption) | exact ndiff32 (by assumption) | exact below_lt (by omega) | fail) only [decide_true, decide_false, if_true, if_false, Bool.false_eq_true, q1', q3', q4']
            exact fin _ (by simp [letterB, q3, q4])
          · have q4' : ¬ (c.toNat : Int) ≤ 90 := by omega
            simp (disch := first | omega | assumption | exact shr_lt (by assumption) | exact ndiff32 (by assumption) | exact below_lt (by omega) | fail) only [decide_true, decide_false, if_true, if_false, Bool.false_eq_true, q1', q3', q4']
            exact fin _ (by simp [letterB]; omega)
        · have q3' : ¬ (65 : Int) ≤ (c.toNat : Int) := by omega
          simp (disch := first | omega | assumption | exact shr_lt (by assumption) | exact ndiff32 (by assumption) | exact below_lt (by omega) | fail) only [decide_false, if_false, Bool.false_eq_true, q1', q3']
          exact fin _ (by simp [letterB]; omega)
    · rintro _ _ _ ⟨rfl, rfl, rfl⟩
      cases hl : letterB c with
      | true =>
        simp (disch := first | omega | assumption | exact shr_lt (by assumption) | exact ndiff32 (by assumption) | exact below_lt (by omega) | fail) only [List.getD_cons_zero, wIf_bool, wGuard_true, wUn_not, if_false, Bool.false_eq_true, and_true, Bool.not_true, and_self, wJoin_eq]
        exact next (.inl hl)
      | false =>
        by_cases q0 : i = 0
        · have q0' : decide ((i : Int) = 0) = true := by simp; omega
          simp (disch := first | omega | assumption | exact shr_lt (by assumption) | exact ndiff32 (by assumption) | exact below_lt (by omega) | fail) only [List.getD_cons_zero, wIf_bool, wGuard_true, wUn_not, decide_true, if_true, and_true, Bool.not_false, and_self, wJoin_eq, q0]
          exact bad hl (.inl q0)
        · have q0' : decide (i = 0) = false := by simp; omega
          by_cases q3 : c.toNat = 95
          · have q3' : decide ((c.toNat : Int) ≠ 95) = false := by simp; omega
            simp (disch := first | omega | assumption | exact shr_lt (by assumption) | exact ndiff32 (by assumption) | exact below_lt (by omega) | fail) only [List.getD_cons_zero, wIf_bool, wGuard_true, wUn_not, if_true, if_false, Bool.false_eq_true, and_true, Bool.not_false, and_self, wJoin_eq, q0', q3']
            exact next (.inr ⟨q0, by simp [restB, q3]⟩)
          · have q3' : decide ((c.toNat : Int) ≠ 95) = true := by simp; omega
            by_cases q1 : c.toNat < 48
            · have q1' : (c.toNat : Int) < 48 := by omega
              simp (disch := first | omega | assumption | exact shr_lt (by assumption) | exact ndiff32 (by assumption) | exact below_lt (by omega) | fail) only [List.getD_cons_zero, wIf_bool, wGuard_true, wUn_not, decide_true, if_true, if_false, Bool.false_eq_true, and_true, Bool.not_false, and_self, wJoin_eq, q0', q3', q1']
              exact bad hl (.inr (by simp [restB, q3]; omega))
            · have q1' : ¬ (c.toNat : Int) < 48 := by omega
              by_cases q2 : 57 < c.toNat
              · have q2' : (57 : Int) < (c.toNat : Int) := by omega
                simp (disch := first | omega | assumption | exact shr_lt (by assumption) | exact ndiff32 (by assumption) | exact below_lt (by omega) | fail) only [List.getD_cons_zero, wIf_bool, wGuard_true, wUn_not, decide_true, decide_false, if_true, if_false, Bool.false_eq_true, and_true, Bool.not_false, and_self, wJoin_eq, q0', q3', q1', q2']
                exact bad hl (.inr (by simp [restB, q3]; omega))
              · have q2' : ¬ (57 : Int) < (c.toNat : Int) := by omega
                simp (disch := first | omega | assumption | exact shr_lt (by assumption) | exact ndiff32 (by assumption) | exact below_lt (by omega) | fail) only [List.getD_cons_zero, wIf_bool, wGuard_true, wUn_not, decide_false, if_true, if_false, Bool.false_eq_true, and_true, Bool.not_false, and_self, wJoin_eq, q0', q3', q1', q2']
                exact next (.inr ⟨q0, by simp [restB]; omega⟩)
  · have hi' : ¬ (i : Int) < (s.size : Int) := by omega
    simp (disch := first | omega | assumption | exact shr_lt (by assumption) | exact ndiff32 (by assumption) | exact below_lt (by omega) | fail) only [decide_false, if_false, Bool.false_eq_true, hi']
    exact ⟨true, rfl, fun _ => ⟨by omega, by omega, fun j c hc => hst j c (by
      rcases Nat.lt_or_ge j s.size with g | g
      · omega
      · rw [getElem?_neg s j (by omega)] at hc; cases hc) hc⟩, fun _ => rfl⟩
end Go.Proofs.YthbdeaeghipliaaGreatDoor

set_option linter.unusedSimpArgs false
set_option linter.unusedVariables false
set_option linter.unusedSectionVars false
namespace Go.Proofs.YthbdeaeghipliaaGreatDoor
open Go.Clo
set_option maxRecDepth 100000
/-! 34: ordinal/explain.checked -/
def d34 : D :=
  (.seq
    (.ops [
        (none, [⟨none, some 2, .p (.mv (.c (.int .i64 0)))⟩])] (.one .nil))
    (.seq
      (.seq
        (.ops [
            (none, [⟨none, some 4, .p (.mv (.s 0))⟩,
            ⟨none, some 5, .e (.call (.c (.func (.func 62) ⟨[]⟩ ⟨[]⟩)) [.s 4, .c (.func (.func 63) ⟨[]⟩ ⟨[]⟩)])⟩])] (.one .nil))
        (.cond (.s 5)
          (.seq
            (.ops [
                (none, [⟨none, some 2, .p (.mv (.c (.int .i64 7)))⟩])] (.one .nil))
            .ret)
          .skip))
      (.seq
        (.ops [
            (none, [⟨none, some 6, .p (.mv (.s 0))⟩,
            ⟨none, some 7, .e (.call (.c (.func (.func 66) ⟨[]⟩ ⟨[]⟩)) [.s 6])⟩,
            ⟨none, some 8, .e (.call (.c (.func (.func 65) ⟨[]⟩ ⟨[]⟩)) [.s 7])⟩,
            ⟨none, some 3, .p (.mv (.s 8))⟩])] (.one .nil))
        (.seq
          (.seq
            (.ops [
                (none, [⟨none, some 9, .p (.mv (.s 3))⟩,
                ⟨none, some 10, .e (.call (.c (.func (.func 67) ⟨[]⟩ ⟨[]⟩)) [.s 9])⟩,
                ⟨none, some 11, .r (.len (.s 10) 0)⟩,
                ⟨none, some 12, .p (.mv (.s 0))⟩,
                ⟨none, some 13, .r (.len (.s 12) 0)⟩,
                ⟨none, some 14, .p (.bin .neq (.s 11) (.s 13))⟩])] (.one .nil))
            (.cond (.s 14)
              (.seq
                (.ops [
                    (none, [⟨none, some 2, .p (.mv (.c (.int .i64 8)))⟩])] (.one .nil))
                .ret)
              .skip))
          (.seq
            (.ops [
                (none, [⟨none, some 2, .p (.mv (.c (.int .i64 0)))⟩])] (.one .nil))
            .ret)))))
theorem cfn34 : cfn Tryz.prog 34 = some ⟨15, 4, d34.erase, [(.s 2, none)]⟩ := by kernel_rfl
theorem ok34 : d34.ok 15 4 = true := by kernel_rfl
noncomputable def F34 (a0 : Value) (H : Heap) (nx : Nat) (k : EP) : Prop :=
  wCall Tryz.prog 62 [a0, (.func (.func 63) ⟨[]⟩ ⟨[]⟩)] H nx fun t5_1 H1 nx1 =>
  wIf t5_1 (
    forceV (.int .i64 7) fun tv_2 => k tv_2 H1 nx1) (
    wCall Tryz.prog 66 [a0] H1 nx1 fun t7_3 H2 nx2 =>
    wCall Tryz.prog 65 [t7_3] H2 nx2 fun t8_4 H3 nx3 =>
    wCall Tryz.prog 67 [t8_4] H3 nx3 fun t10_5 H4 nx4 =>
    wLen t10_5 0 H4 fun t11_6 =>
    wLen a0 0 H4 fun t13_7 =>
    wBin .neq t11_6 t13_7 fun t14_8 =>
    wIf t14_8 (
      forceV (.int .i64 8) fun tv_9 => k tv_9 H4 nx4) (
      forceV (.int .i64 0) fun tv_10 => k tv_10 H4 nx4))
theorem eq34 (a0 : Value) (H : Heap) (nx : Nat) (k : EP) : wBody Tryz.prog 15 4 d34 [(.s 2, none)] [a0] H nx k = F34 a0 H nx k := by kernel_rfl
theorem spec34 {a0 : Value} {H : Heap} {nx : Nat} {k : EP} (h : F34 a0 H nx k) : Ans Tryz.prog 34 [a0] H nx k :=
  spec_of_body mixed namesOK cfn34 ok34 (by simp) ((eq34 a0 H nx k).symm ▸ h)

/-! 36: ordinal/explain.named -/
def d36 : D :=
  (.seq
    (.ops [
        (none, [⟨none, some 4, .p (.mv (.c (.slice none 0 0)))⟩,
        ⟨none, some 5, .p (.mv (.c (.int .i64 0)))⟩])] (.one .nil))
    (.seq
      (.ops [
          (none, [⟨none, some 9, .a (.bsl 0 1 [.string ⟨#[]⟩] [])⟩,
          ⟨none, some 6, .p (.mv (.s 9))⟩])] (.one .nil))
      (.seq
        (.seq
          (.ops [
              (none, [⟨none, some 10, .p (.mv (.s 1))⟩,
              ⟨none, some 11, .r (.len (.s 10) 0)⟩,
              ⟨none, some 12, .p (.mv (.c (.int .i64 0)))⟩])] (.one .nil))
          (.block 0
            (.loop [6, 12] [4, 5, 8, 13, 14, 15, 16, 17, 18, 19, 20, 21, 22, 23, 24, 25, 26, 27, 28, 29, 30, 31]
              (.seq
                (.ops [
                    (none, [⟨none, some 13, .p (.bin .lss (.s 12) (.s 11))⟩])] (.one .nil))
                (.seq
                  (.cond (.s 13)
                    .skip
                    (.exit 0))
                  (.seq
                    (.block 1
                      (.seq
                        (.ops [
                            (none, [⟨none, some 14, .p (.idx (.s 10) (.s 12) none 1)⟩,
                            ⟨none, some 15, .r (.ld (.s 14) none)⟩,
                            ⟨none, some 8, .p (.mv (.s 15))⟩])] (.one .nil))
                        (.seq
                          (.join [23] [16, 17, 18, 19, 20, 21, 22]
                            (.ops [
                                (none, [⟨none, some 16, .p (.mv (.s 8))⟩,
                                ⟨none, some 17, .p (.bin .lss (.s 16) (.c (.int .i64 0)))⟩,
                                ⟨none, some 18, .p (.mv (.s 17))⟩]),
                                (some (18, false), [⟨none, some 19, .p (.mv (.s 8))⟩,
                                ⟨none, some 20, .p (.mv (.s 0))⟩,
                                ⟨none, some 21, .r (.len (.s 20) 0)⟩,
                                ⟨none, some 22, .p (.bin .geq (.s 19) (.s 21))⟩]),
                                (none, [⟨none, some 23, .p (.pick (.s 18) (.c (.bool true)) (.s 22))⟩])] (.one (.tst (.one .nil) (.one .nil))))
                            (.cond (.s 23)
                              (.seq
                                (.ops [
                                    (none, [⟨none, some 4, .p (.mv (.c (.slice none 0 0)))⟩,
                                    ⟨none, some 5, .p (.mv (.c (.int .i64 3)))⟩])] (.one .nil))
                                .ret)
                              .skip))
                          (.ops [
                              (none, [⟨none, some 24, .p (.mv (.s 6))⟩,
                              ⟨none, some 25, .p (.mv (.s 0))⟩,
                              ⟨none, some 26, .p (.mv (.s 8))⟩,
                              ⟨none, some 27, .p (.idx (.s 25) (.s 26) none 1)⟩,
                              ⟨none, some 28, .r (.ld (.s 27) none)⟩,
                              ⟨none, some 29, .a (.bsl 1 1 [.string ⟨#[]⟩] [(0, .s 28)])⟩,
                              ⟨none, some 30, .e (.app (.s 24) (.s 29) 1 16)⟩,
                              ⟨none, some 6, .p (.mv (.s 30))⟩])] (.one .nil)))))
                    (.ops [
                        (none, [⟨none, some 31, .p (.bin .add (.s 12) (.c (.int .i64 1)))⟩,
                        ⟨none, some 12, .p (.mv (.s 31))⟩])] (.one .nil))))))))
        (.seq
          (.ops [
              (none, [⟨none, some 32, .p (.mv (.s 6))⟩,
              ⟨none, some 4, .p (.mv (.s 32))⟩,
              ⟨none, some 5, .p (.mv (.c (.int .i64 0)))⟩])] (.one .nil))
          .ret))))
theorem cfn36 : cfn Tryz.prog 36 = some ⟨33, 6, d36.erase, [(.s 4, none), (.s 5, none)]⟩ := by kernel_rfl
theorem ok36 : d36.ok 33 6 = true := by kernel_rfl
noncomputable def F36 (a0 a1 : Value) (H : Heap) (nx : Nat) (k : EP) : Prop :=
  dBsl 0 1 [.string ⟨#[]⟩] [] fun tc_1 => wNew (.cells tc_1 0) (.slice 0 0) H nx fun t9_2 H1 nx1 =>
  wLen a1 0 H1 fun t11_3 =>
  wLoop (fun tih_4 tL_5 H2 nx2 =>
    wBin .lss (tL_5.getD 1 undef) t11_3 fun t13_6 =>
    wIf t13_6 (
      wIdx a1 (tL_5.getD 1 undef) none 1 fun t14_7 =>
      wLd t14_7 none H2 fun t15_8 =>
      wJoin (fun tj_9 =>
        wBin .lss t15_8 (.int .i64 0) fun t17_11 =>
        wGuard false t17_11 (
          wLen a0 0 H2 fun t21_12 =>
          wBin .geq t15_8 t21_12 fun t22_13 =>
          tj_9 [t22_13] H2 nx2) (
          tj_9 [(.bool true)] H2 nx2)) (fun tL_10 H3 nx3 =>
        wIf (tL_10.getD 0 undef) (
          forceV (.tuple ⟨[(.slice none 0 0), (.int .i64 3)]⟩) fun tv_14 => k tv_14 H3 nx3) (
          wIdx a0 t15_8 none 1 fun t27_15 =>
          wLd t27_15 none H3 fun t28_16 =>
          dBsl 1 1 [.string ⟨#[]⟩] [(0, t28_16)] fun tc_17 => wNew (.cells tc_17 0) (.slice 1 1) H3 nx3 fun t29_18 H4 nx4 =>
          wApp (tL_5.getD 0 undef) t29_18 1 16 H4 nx4 fun t30_19 H5 nx5 =>
          wBin .add (tL_5.getD 1 undef) (.int .i64 1) fun t31_20 =>
          tih_4 [t30_19, t31_20] H5 nx5))) (
      forceV (.tuple ⟨[(tL_5.getD 0 undef), (.int .i64 0)]⟩) fun tv_21 => k tv_21 H2 nx2)) [t9_2, (.int .i64 0)] H1 nx1
theorem eq36 (a0 a1 : Value) (H : Heap) (nx : Nat) (k : EP) : wBody Tryz.prog 33 6 d36 [(.s 4, none), (.s 5, none)] [a0, a1] H nx k = F36 a0 a1 H nx k := by kernel_rfl
theorem spec36 {a0 a1 : Value} {H : Heap} {nx : Nat} {k : EP} (h : F36 a0 a1 H nx k) : Ans Tryz.prog 36 [a0, a1] H nx k :=
  spec_of_body mixed namesOK cfn36 ok36 (by simp) ((eq36 a0 a1 H nx k).symm ▸ h)

/-! 20: ordinal/explain.joined -/
def d20 : D :=
  (.seq
    (.ops [
        (none, [⟨none, some 4, .p (.mv (.c (.string ⟨#[]⟩)))⟩])] (.one .nil))
    (.seq
      (.ops [
          (none, [⟨none, some 5, .p (.mv (.s 0))⟩,
          ⟨none, some 6, .a (.bsl 1 1 [.string ⟨#[]⟩] [(0, .s 5)])⟩,
          ⟨none, some 7, .p (.mv (.s 1))⟩,
          ⟨none, some 8, .e (.app (.s 6) (.s 7) 1 16)⟩,
          ⟨none, some 9, .e (.call (.c (.func (.func 48) ⟨[]⟩ ⟨[]⟩)) [.s 8, .c (.string ⟨#[32]⟩)])⟩,
          ⟨none, some 4, .p (.mv (.s 9))⟩])] (.one .nil))
      .ret))
theorem cfn20 : cfn Tryz.prog 20 = some ⟨10, 4, d20.erase, [(.s 4, none)]⟩ := by kernel_rfl
theorem ok20 : d20.ok 10 4 = true := by kernel_rfl
noncomputable def F20 (a0 a1 : Value) (H : Heap) (nx : Nat) (k : EP) : Prop :=
  dBsl 1 1 [.string ⟨#[]⟩] [(0, a0)] fun tc_1 => wNew (.cells tc_1 0) (.slice 1 1) H nx fun t6_2 H1 nx1 =>
  wApp t6_2 a1 1 16 H1 nx1 fun t8_3 H2 nx2 =>
  wCall Tryz.prog 48 [t8_3, (.string ⟨#[32]⟩)] H2 nx2 fun t9_4 H3 nx3 =>
  forceV t9_4 fun tv_5 => k tv_5 H3 nx3
theorem eq20 (a0 a1 : Value) (H : Heap) (nx : Nat) (k : EP) : wBody Tryz.prog 10 4 d20 [(.s 4, none)] [a0, a1] H nx k = F20 a0 a1 H nx k := by kernel_rfl
theorem spec20 {a0 a1 : Value} {H : Heap} {nx : Nat} {k : EP} (h : F20 a0 a1 H nx k) : Ans Tryz.prog 20 [a0, a1] H nx k :=
  spec_of_body mixed namesOK cfn20 ok20 (by simp) ((eq20 a0 a1 H nx k).symm ▸ h)

/-! 49: ordinal/ordinalref56.Names -/
def d49 : D :=
  (.seq
    (.ops [
        (none, [⟨none, some 2, .p (.mv (.c (.int .i64 0)))⟩])] (.one .nil))
    (.seq
      (.seq
        (.ops [
            (none, [⟨none, some 3, .p (.mv (.c (.int .i64 0)))⟩])] (.one .nil))
        (.block 0
          (.loop [3] [2, 6, 7, 8, 9, 10, 11, 12, 13, 14, 15, 16, 17]
            (.seq
              (.seq
                (.ops [
                    (none, [⟨none, some 6, .p (.mv (.s 3))⟩,
                    ⟨none, some 7, .p (.mv (.s 0))⟩,
                    ⟨none, some 8, .r (.len (.s 7) 0)⟩,
                    ⟨none, some 9, .p (.bin .lss (.s 6) (.s 8))⟩])] (.one .nil))
                (.cond (.s 9)
                  .skip
                  (.exit 0)))
              (.seq
                (.block 1
                  (.seq
                    (.ops [
                        (none, [⟨none, some 12, .p (.mv (.s 0))⟩,
                        ⟨none, some 13, .p (.mv (.s 3))⟩,
                        ⟨none, some 14, .p (.idx (.s 12) (.s 13) none 1)⟩,
                        ⟨none, some 15, .r (.ld (.s 14) none)⟩,
                        ⟨none, some 16, .e (.call (.c (.func (.func 78) ⟨[]⟩ ⟨[]⟩)) [.s 15])⟩,
                        ⟨none, some 17, .p (.un .not (.s 16))⟩])] (.one .nil))
                    (.cond (.s 17)
                      (.seq
                        (.ops [
                            (none, [⟨none, some 2, .p (.mv (.c (.int .i64 7)))⟩])] (.one .nil))
                        .ret)
                      .skip)))
                (.ops [
                    (none, [⟨none, some 10, .p (.mv (.s 3))⟩,
                    ⟨none, some 11, .p (.bin .add (.s 10) (.c (.int .i64 1)))⟩,
                    ⟨none, some 3, .p (.mv (.s 11))⟩])] (.one .nil)))))))
      (.seq
        (.seq
          (.ops [
              (none, [⟨none, some 4, .p (.mv (.c (.int .i64 0)))⟩])] (.one .nil))
          (.block 2
            (.loop [4] [2, 5, 18, 19, 20, 21, 22, 23, 24, 25, 26, 27, 28, 29, 30, 31, 32, 33, 34, 35, 36, 37]
              (.seq
                (.seq
                  (.ops [
                      (none, [⟨none, some 18, .p (.mv (.s 4))⟩,
                      ⟨none, some 19, .p (.mv (.s 0))⟩,
                      ⟨none, some 20, .r (.len (.s 19) 0)⟩,
                      ⟨none, some 21, .p (.bin .lss (.s 18) (.s 20))⟩])] (.one .nil))
                  (.cond (.s 21)
                    .skip
                    (.exit 2)))
                (.seq
                  (.block 3
                    (.seq
                      (.ops [
                          (none, [⟨none, some 5, .p (.mv (.c (.int .i64 0)))⟩])] (.one .nil))
                      (.block 4
                        (.loop [5] [2, 24, 25, 26, 27, 28, 29, 30, 31, 32, 33, 34, 35, 36, 37]
                          (.seq
                            (.seq
                              (.ops [
                                  (none, [⟨none, some 24, .p (.mv (.s 5))⟩,
                                  ⟨none, some 25, .p (.mv (.s 4))⟩,
                                  ⟨none, some 26, .p (.bin .lss (.s 24) (.s 25))⟩])] (.one .nil))
                              (.cond (.s 26)
                                .skip
                                (.exit 4)))
                            (.seq
                              (.block 5
                                (.seq
                                  (.draw [0, 0, 3, 7, 0, 0, 48, 112, 255] [
                                      (none, [⟨none, some 29, .p (.mv (.s 0))⟩,
                                      ⟨none, some 30, .p (.mv (.s 4))⟩,
                                      ⟨none, some 31, .p (.idx (.s 29) (.s 30) none 1)⟩,
                                      ⟨none, some 32, .r (.ld (.s 31) none)⟩,
                                      ⟨none, some 33, .p (.mv (.s 0))⟩,
                                      ⟨none, some 34, .p (.mv (.s 5))⟩,
                                      ⟨none, some 35, .p (.idx (.s 33) (.s 34) none 1)⟩,
                                      ⟨none, some 36, .r (.ld (.s 35) none)⟩,
                                      ⟨none, some 37, .p (.bin .eql (.s 32) (.s 36))⟩])] (.one .nil))
                                  (.cond (.s 37)
                                    (.seq
                                      (.ops [
                                          (none, [⟨none, some 2, .p (.mv (.c (.int .i64 8)))⟩])] (.one .nil))
                                      .ret)
                                    .skip)))
                              (.ops [
                                  (none, [⟨none, some 27, .p (.mv (.s 5))⟩,
                                  ⟨none, some 28, .p (.bin .add (.s 27) (.c (.int .i64 1)))⟩,
                                  ⟨none, some 5, .p (.mv (.s 28))⟩])] (.one .nil))))))))
                  (.ops [
                      (none, [⟨none, some 22, .p (.mv (.s 4))⟩,
                      ⟨none, some 23, .p (.bin .add (.s 22) (.c (.int .i64 1)))⟩,
                      ⟨none, some 4, .p (.mv (.s 23))⟩])] (.one .nil)))))))
        (.seq
          (.ops [
              (none, [⟨none, some 2, .p (.mv (.c (.int .i64 0)))⟩])] (.one .nil))
          .ret))))
theorem cfn49 : cfn Tryz.prog 49 = some ⟨38, 6, d49.erase, [(.s 2, none)]⟩ := by kernel_rfl
theorem ok49 : d49.ok 38 6 = true := by kernel_rfl
noncomputable def F49 (a0 : Value) (H : Heap) (nx : Nat) (k : EP) : Prop :=
  wLoop (fun tih_1 tL_2 H1 nx1 =>
    wLen a0 0 H1 fun t8_3 =>
    wBin .lss (tL_2.getD 0 undef) t8_3 fun t9_4 =>
    wIf t9_4 (
      wIdx a0 (tL_2.getD 0 undef) none 1 fun t14_5 =>
      wLd t14_5 none H1 fun t15_6 =>
      wCall Tryz.prog 78 [t15_6] H1 nx1 fun t16_7 H2 nx2 =>
      wUn .not t16_7 fun t17_8 =>
      wIf t17_8 (
        forceV (.int .i64 7) fun tv_9 => k tv_9 H2 nx2) (
        wBin .add (tL_2.getD 0 undef) (.int .i64 1) fun t11_10 =>
        tih_1 [t11_10] H2 nx2)) (
      wLoop (fun tih_11 tL_12 H3 nx3 =>
        wLen a0 0 H3 fun t20_13 =>
        wBin .lss (tL_12.getD 0 undef) t20_13 fun t21_14 =>
        wIf t21_14 (
          wLoop (fun tih_15 tL_16 H4 nx4 =>
            wBin .lss (tL_16.getD 0 undef) (tL_12.getD 0 undef) fun t26_17 =>
            wIf t26_17 (
              forceN (nx4 + 9) fun nx5 =>
              wIdx a0 (tL_12.getD 0 undef) none 1 fun t31_18 =>
              wLd t31_18 none H4 fun t32_19 =>
              wIdx a0 (tL_16.getD 0 undef) none 1 fun t35_20 =>
              wLd t35_20 none H4 fun t36_21 =>
              wBin .eql t32_19 t36_21 fun t37_22 =>
              (((((wLd t35_20 none H4 fun tq_24 => tq_24 = t36_21) ∧ True) ∧ (((wLd t31_18 none H4 fun tq_23 => tq_23 = t32_19) ∧ True) ∧ True))) ∧ (
                wIf t37_22 (
                  forceV (.int .i64 8) fun tv_25 => k tv_25 H4 nx5) (
                  wBin .add (tL_16.getD 0 undef) (.int .i64 1) fun t28_26 =>
                  tih_15 [t28_26] H4 nx5))) ∨ False) (
              wBin .add (tL_12.getD 0 undef) (.int .i64 1) fun t23_27 =>
              tih_11 [t23_27] H4 nx4)) [(.int .i64 0)] H3 nx3) (
          forceV (.int .i64 0) fun tv_28 => k tv_28 H3 nx3)) [(.int .i64 0)] H1 nx1)) [(.int .i64 0)] H nx
theorem eq49 (a0 : Value) (H : Heap) (nx : Nat) (k : EP) : wBody Tryz.prog 38 6 d49 [(.s 2, none)] [a0] H nx k = F49 a0 H nx k := by kernel_rfl
theorem spec49 {a0 : Value} {H : Heap} {nx : Nat} {k : EP} (h : F49 a0 H nx k) : Ans Tryz.prog 49 [a0] H nx k :=
  spec_of_body mixed namesOK cfn49 ok49 (by simp) ((eq49 a0 H nx k).symm ▸ h)

/-! 32: ordinal/ordinalref56.List -/
def d32 : D :=
  (.seq
    (.ops [
        (none, [⟨none, some 4, .p (.mv (.c (.string ⟨#[]⟩)))⟩,
        ⟨none, some 5, .p (.mv (.c (.int .i64 0)))⟩])] (.one .nil))
    (.seq
      (.ops [
          (none, [⟨none, some 6, .p (.mv (.c (.string ⟨#[]⟩)))⟩])] (.one .nil))
      (.seq
        (.seq
          (.ops [
              (none, [⟨none, some 7, .p (.mv (.c (.int .i64 0)))⟩])] (.one .nil))
          (.block 0
            (.loop [6, 7] [4, 5, 8, 9, 10, 11, 12, 13, 14, 15, 16, 17, 18, 19, 20, 21, 22, 23, 24, 25, 26, 27, 28, 29, 30, 31, 32, 33, 34, 35, 36, 37]
              (.seq
                (.seq
                  (.ops [
                      (none, [⟨none, some 8, .p (.mv (.s 7))⟩,
                      ⟨none, some 9, .p (.mv (.s 1))⟩,
                      ⟨none, some 10, .r (.len (.s 9) 0)⟩,
                      ⟨none, some 11, .p (.bin .lss (.s 8) (.s 10))⟩])] (.one .nil))
                  (.cond (.s 11)
                    .skip
                    (.exit 0)))
                (.seq
                  (.block 1
                    (.seq
                      (.join [27] [14, 15, 16, 17, 18, 19, 20, 21, 22, 23, 24, 25, 26]
                        (.ops [
                            (none, [⟨none, some 14, .p (.mv (.s 1))⟩,
                            ⟨none, some 15, .p (.mv (.s 7))⟩,
                            ⟨none, some 16, .p (.idx (.s 14) (.s 15) none 1)⟩,
                            ⟨none, some 17, .r (.ld (.s 16) none)⟩,
                            ⟨none, some 18, .p (.bin .lss (.s 17) (.c (.int .i64 0)))⟩,
                            ⟨none, some 19, .p (.mv (.s 18))⟩]),
                            (some (19, false), [⟨none, some 20, .p (.mv (.s 1))⟩,
                            ⟨none, some 21, .p (.mv (.s 7))⟩,
                            ⟨none, some 22, .p (.idx (.s 20) (.s 21) none 1)⟩,
                            ⟨none, some 23, .r (.ld (.s 22) none)⟩,
                            ⟨none, some 24, .p (.mv (.s 0))⟩,
                            ⟨none, some 25, .r (.len (.s 24) 0)⟩,
                            ⟨none, some 26, .p (.bin .geq (.s 23) (.s 25))⟩]),
                            (none, [⟨none, some 27, .p (.pick (.s 19) (.c (.bool true)) (.s 26))⟩])] (.one (.tst (.one .nil) (.one .nil))))
                        (.cond (.s 27)
                          (.seq
                            (.ops [
                                (none, [⟨none, some 4, .p (.mv (.c (.string ⟨#[]⟩)))⟩,
                                ⟨none, some 5, .p (.mv (.c (.int .i64 3)))⟩])] (.one .nil))
                            .ret)
                          .skip))
                      (.ops [
                          (none, [⟨none, some 28, .p (.mv (.s 6))⟩,
                          ⟨none, some 29, .p (.bin .add (.s 28) (.c (.string ⟨#[32]⟩)))⟩,
                          ⟨none, some 30, .p (.mv (.s 0))⟩,
                          ⟨none, some 31, .p (.mv (.s 1))⟩,
                          ⟨none, some 32, .p (.mv (.s 7))⟩,
                          ⟨none, some 33, .p (.idx (.s 31) (.s 32) none 1)⟩,
                          ⟨none, some 34, .r (.ld (.s 33) none)⟩,
                          ⟨none, some 35, .p (.idx (.s 30) (.s 34) none 1)⟩,
                          ⟨none, some 36, .r (.ld (.s 35) none)⟩,
                          ⟨none, some 37, .p (.bin .add (.s 29) (.s 36))⟩,
                          ⟨none, some 6, .p (.mv (.s 37))⟩])] (.one .nil))))
                  (.ops [
                      (none, [⟨none, some 12, .p (.mv (.s 7))⟩,
                      ⟨none, some 13, .p (.bin .add (.s 12) (.c (.int .i64 1)))⟩,
                      ⟨none, some 7, .p (.mv (.s 13))⟩])] (.one .nil)))))))
        (.seq
          (.ops [
              (none, [⟨none, some 38, .p (.mv (.s 6))⟩,
              ⟨none, some 4, .p (.mv (.s 38))⟩,
              ⟨none, some 5, .p (.mv (.c (.int .i64 0)))⟩])] (.one .nil))
          .ret))))
theorem cfn32 : cfn Tryz.prog 32 = some ⟨39, 6, d32.erase, [(.s 4, none), (.s 5, none)]⟩ := by kernel_rfl
theorem ok32 : d32.ok 39 6 = true := by kernel_rfl
noncomputable def F32 (a0 a1 : Value) (H : Heap) (nx : Nat) (k : EP) : Prop :=
  wLoop (fun tih_1 tL_2 H1 nx1 =>
    wLen a1 0 H1 fun t10_3 =>
    wBin .lss (tL_2.getD 1 undef) t10_3 fun t11_4 =>
    wIf t11_4 (
      wJoin (fun tj_5 =>
        wIdx a1 (tL_2.getD 1 undef) none 1 fun t16_7 =>
        wLd t16_7 none H1 fun t17_8 =>
        wBin .lss t17_8 (.int .i64 0) fun t18_9 =>
        wGuard false t18_9 (
          wIdx a1 (tL_2.getD 1 undef) none 1 fun t22_10 =>
          wLd t22_10 none H1 fun t23_11 =>
          wLen a0 0 H1 fun t25_12 =>
          wBin .geq t23_11 t25_12 fun t26_13 =>
          tj_5 [t26_13] H1 nx1) (
          tj_5 [(.bool true)] H1 nx1)) (fun tL_6 H2 nx2 =>
        wIf (tL_6.getD 0 undef) (
          forceV (.tuple ⟨[(.string ⟨#[]⟩), (.int .i64 3)]⟩) fun tv_14 => k tv_14 H2 nx2) (
          wBin .add (tL_2.getD 0 undef) (.string ⟨#[32]⟩) fun t29_15 =>
          wIdx a1 (tL_2.getD 1 undef) none 1 fun t33_16 =>
          wLd t33_16 none H2 fun t34_17 =>
          wIdx a0 t34_17 none 1 fun t35_18 =>
          wLd t35_18 none H2 fun t36_19 =>
          wBin .add t29_15 t36_19 fun t37_20 =>
          wBin .add (tL_2.getD 1 undef) (.int .i64 1) fun t13_21 =>
          tih_1 [t37_20, t13_21] H2 nx2))) (
      forceV (.tuple ⟨[(tL_2.getD 0 undef), (.int .i64 0)]⟩) fun tv_22 => k tv_22 H1 nx1)) [(.string ⟨#[]⟩), (.int .i64 0)] H nx
theorem eq32 (a0 a1 : Value) (H : Heap) (nx : Nat) (k : EP) : wBody Tryz.prog 39 6 d32 [(.s 4, none), (.s 5, none)] [a0, a1] H nx k = F32 a0 a1 H nx k := by kernel_rfl
theorem spec32 {a0 a1 : Value} {H : Heap} {nx : Nat} {k : EP} (h : F32 a0 a1 H nx k) : Ans Tryz.prog 32 [a0, a1] H nx k :=
  spec_of_body mixed namesOK cfn32 ok32 (by simp) ((eq32 a0 a1 H nx k).symm ▸ h)

/-! 21: ordinal/ordinalref56.Text -/
def d21 : D :=
  (.seq
    (.ops [
        (none, [⟨none, some 6, .p (.mv (.c (.string ⟨#[]⟩)))⟩,
        ⟨none, some 7, .p (.mv (.c (.int .i64 0)))⟩])] (.one .nil))
    (.seq
      (.seq
        (.ops [
            (none, [⟨none, some 11, .p (.mv (.s 0))⟩,
            ⟨none, some 12, .e (.call (.c (.func (.func 49) ⟨[]⟩ ⟨[]⟩)) [.s 11])⟩,
            ⟨none, some 8, .p (.mv (.s 12))⟩])] (.one .nil))
        (.seq
          (.ops [
              (none, [⟨none, some 13, .p (.mv (.s 8))⟩,
              ⟨none, some 14, .p (.bin .neq (.s 13) (.c (.int .i64 0)))⟩])] (.one .nil))
          (.cond (.s 14)
            (.seq
              (.ops [
                  (none, [⟨none, some 15, .p (.mv (.s 8))⟩,
                  ⟨none, some 6, .p (.mv (.c (.string ⟨#[]⟩)))⟩,
                  ⟨none, some 7, .p (.mv (.s 15))⟩])] (.one .nil))
              .ret)
            .skip)))
      (.seq
        (.join [21] [16, 17, 18, 19, 20]
          (.ops [
              (none, [⟨none, some 16, .p (.mv (.s 1))⟩,
              ⟨none, some 17, .p (.bin .lss (.s 16) (.c (.int .i64 0)))⟩,
              ⟨none, some 18, .p (.mv (.s 17))⟩]),
              (some (18, false), [⟨none, some 19, .p (.mv (.s 1))⟩,
              ⟨none, some 20, .p (.bin .gtr (.s 19) (.c (.int .i64 3)))⟩]),
              (none, [⟨none, some 21, .p (.pick (.s 18) (.c (.bool true)) (.s 20))⟩])] (.one (.tst (.one .nil) (.one .nil))))
          (.cond (.s 21)
            (.seq
              (.ops [
                  (none, [⟨none, some 6, .p (.mv (.c (.string ⟨#[]⟩)))⟩,
                  ⟨none, some 7, .p (.mv (.c (.int .i64 2)))⟩])] (.one .nil))
              .ret)
            .skip))
        (.seq
          (.ops [
              (none, [⟨none, some 23, .p (.mv (.s 0))⟩,
              ⟨none, some 24, .p (.mv (.s 2))⟩,
              ⟨none, some 25, .e (.call (.c (.func (.func 32) ⟨[]⟩ ⟨[]⟩)) [.s 23, .s 24])⟩,
              ⟨none, some 22, .p (.mv (.s 25))⟩,
              ⟨none, some 26, .p (.ext (.s 22) 0)⟩,
              ⟨none, some 27, .p (.ext (.s 22) 1)⟩,
              ⟨none, some 9, .p (.mv (.s 26))⟩,
              ⟨none, some 10, .p (.mv (.s 27))⟩])] (.one .nil))
          (.seq
            (.seq
              (.ops [
                  (none, [⟨none, some 28, .p (.mv (.s 10))⟩,
                  ⟨none, some 29, .p (.bin .neq (.s 28) (.c (.int .i64 0)))⟩])] (.one .nil))
              (.cond (.s 29)
                (.seq
                  (.ops [
                      (none, [⟨none, some 30, .p (.mv (.s 10))⟩,
                      ⟨none, some 6, .p (.mv (.c (.string ⟨#[]⟩)))⟩,
                      ⟨none, some 7, .p (.mv (.s 30))⟩])] (.one .nil))
                  .ret)
                .skip))
            (.seq
              (.ops [
                  (none, [⟨none, some 31, .e (.call (.c (.func (.func 50) ⟨[]⟩ ⟨[]⟩)) [])⟩,
                  ⟨none, some 32, .p (.mv (.s 1))⟩,
                  ⟨none, some 33, .p (.idx (.s 31) (.s 32) none 1)⟩,
                  ⟨none, some 34, .r (.ld (.s 33) none)⟩,
                  ⟨none, some 35, .p (.mv (.s 9))⟩,
                  ⟨none, some 36, .p (.bin .add (.s 34) (.s 35))⟩,
                  ⟨none, some 6, .p (.mv (.s 36))⟩,
                  ⟨none, some 7, .p (.mv (.c (.int .i64 0)))⟩])] (.one .nil))
              .ret))))))
theorem cfn21 : cfn Tryz.prog 21 = some ⟨37, 6, d21.erase, [(.s 6, none), (.s 7, none)]⟩ := by kernel_rfl
theorem ok21 : d21.ok 37 6 = true := by kernel_rfl
noncomputable def F21 (a0 a1 a2 : Value) (H : Heap) (nx : Nat) (k : EP) : Prop :=
  wCall Tryz.prog 49 [a0] H nx fun t12_1 H1 nx1 =>
  wBin .neq t12_1 (.int .i64 0) fun t14_2 =>
  wIf t14_2 (
    forceV (.tuple ⟨[(.string ⟨#[]⟩), t12_1]⟩) fun tv_3 => k tv_3 H1 nx1) (
    wJoin (fun tj_4 =>
      wBin .lss a1 (.int .i64 0) fun t17_6 =>
      wGuard false t17_6 (
        wBin .gtr a1 (.int .i64 3) fun t20_7 =>
        tj_4 [t20_7] H1 nx1) (
        tj_4 [(.bool true)] H1 nx1)) (fun tL_5 H2 nx2 =>
      wIf (tL_5.getD 0 undef) (
        forceV (.tuple ⟨[(.string ⟨#[]⟩), (.int .i64 2)]⟩) fun tv_8 => k tv_8 H2 nx2) (
        wCall Tryz.prog 32 [a0, a2] H2 nx2 fun t25_9 H3 nx3 =>
        wExt t25_9 0 fun t26_10 =>
        wExt t25_9 1 fun t27_11 =>
        wBin .neq t27_11 (.int .i64 0) fun t29_12 =>
        wIf t29_12 (
          forceV (.tuple ⟨[(.string ⟨#[]⟩), t27_11]⟩) fun tv_13 => k tv_13 H3 nx3) (
          wCall Tryz.prog 50 [] H3 nx3 fun t31_14 H4 nx4 =>
          wIdx t31_14 a1 none 1 fun t33_15 =>
          wLd t33_15 none H4 fun t34_16 =>
          wBin .add t34_16 t26_10 fun t36_17 =>
          forceV (.tuple ⟨[t36_17, (.int .i64 0)]⟩) fun tv_18 => k tv_18 H4 nx4))))
theorem eq21 (a0 a1 a2 : Value) (H : Heap) (nx : Nat) (k : EP) : wBody Tryz.prog 37 6 d21 [(.s 6, none), (.s 7, none)] [a0, a1, a2] H nx k = F21 a0 a1 a2 H nx k := by kernel_rfl
theorem spec21 {a0 a1 a2 : Value} {H : Heap} {nx : Nat} {k : EP} (h : F21 a0 a1 a2 H nx k) : Ans Tryz.prog 21 [a0, a1, a2] H nx k :=
  spec_of_body mixed namesOK cfn21 ok21 (by simp) ((eq21 a0 a1 a2 H nx k).symm ▸ h)

/-! 14: ordinal/explain.Verdict -/
def d14 : D :=
  (.seq
    (.ops [
        (none, [⟨none, some 3, .a (.box (.s 1))⟩,
        ⟨none, some 4, .p (.mv (.c (.string ⟨#[]⟩)))⟩,
        ⟨none, some 5, .p (.mv (.c (.int .i64 0)))⟩])] (.one .nil))
    (.seq
      (.seq
        (.ops [
            (none, [⟨none, some 11, .p (.mv (.s 0))⟩,
            ⟨none, some 12, .e (.call (.c (.func (.func 34) ⟨[]⟩ ⟨[]⟩)) [.s 11])⟩,
            ⟨none, some 6, .p (.mv (.s 12))⟩])] (.one .nil))
        (.seq
          (.ops [
              (none, [⟨none, some 13, .p (.mv (.s 6))⟩,
              ⟨none, some 14, .p (.bin .neq (.s 13) (.c (.int .i64 0)))⟩])] (.one .nil))
          (.cond (.s 14)
            (.seq
              (.ops [
                  (none, [⟨none, some 15, .p (.mv (.s 6))⟩,
                  ⟨none, some 4, .p (.mv (.c (.string ⟨#[]⟩)))⟩,
                  ⟨none, some 5, .p (.mv (.s 15))⟩])] (.one .nil))
              .ret)
            .skip)))
      (.seq
        (.ops [
            (none, [⟨none, some 16, .e (.call (.c (.func (.func 35) ⟨[]⟩ ⟨[]⟩)) [])⟩,
            ⟨none, some 7, .p (.mv (.s 16))⟩])] (.one .nil))
        (.seq
          (.join [26] [17, 18, 19, 20, 21, 22, 23, 24, 25]
            (.ops [
                (none, [⟨none, some 17, .p (.fld (.s 3) 0)⟩,
                ⟨none, some 18, .r (.ld (.s 17) none)⟩,
                ⟨none, some 19, .p (.bin .lss (.s 18) (.c (.int .i64 0)))⟩,
                ⟨none, some 20, .p (.mv (.s 19))⟩]),
                (some (20, false), [⟨none, some 21, .p (.fld (.s 3) 0)⟩,
                ⟨none, some 22, .r (.ld (.s 21) none)⟩,
                ⟨none, some 23, .p (.mv (.s 7))⟩,
                ⟨none, some 24, .r (.len (.s 23) 0)⟩,
                ⟨none, some 25, .p (.bin .geq (.s 22) (.s 24))⟩]),
                (none, [⟨none, some 26, .p (.pick (.s 20) (.c (.bool true)) (.s 25))⟩])] (.one (.tst (.one .nil) (.one .nil))))
            (.cond (.s 26)
              (.seq
                (.ops [
                    (none, [⟨none, some 4, .p (.mv (.c (.string ⟨#[]⟩)))⟩,
                    ⟨none, some 5, .p (.mv (.c (.int .i64 2)))⟩])] (.one .nil))
                .ret)
              .skip))
          (.seq
            (.ops [
                (none, [⟨none, some 27, .p (.fld (.s 3) 2)⟩,
                ⟨none, some 28, .r (.ld (.s 27) none)⟩,
                ⟨none, some 8, .p (.mv (.s 28))⟩])] (.one .nil))
            (.join [8] [29, 30, 31, 32, 33]
              (.seq
                (.ops [
                    (none, [⟨none, some 29, .p (.fld (.s 3) 0)⟩,
                    ⟨none, some 30, .r (.ld (.s 29) none)⟩,
                    ⟨none, some 31, .p (.bin .eql (.s 30) (.c (.int .i64 0)))⟩])] (.one .nil))
                (.cond (.s 31)
                  (.ops [
                      (none, [⟨none, some 32, .p (.fld (.s 3) 1)⟩,
                      ⟨none, some 33, .r (.ld (.s 32) none)⟩,
                      ⟨none, some 8, .p (.mv (.s 33))⟩])] (.one .nil))
                  .skip))
              (.seq
                (.ops [
                    (none, [⟨none, some 35, .p (.mv (.s 0))⟩,
                    ⟨none, some 36, .p (.mv (.s 8))⟩,
                    ⟨none, some 37, .e (.call (.c (.func (.func 36) ⟨[]⟩ ⟨[]⟩)) [.s 35, .s 36])⟩,
                    ⟨none, some 34, .p (.mv (.s 37))⟩,
                    ⟨none, some 38, .p (.ext (.s 34) 0)⟩,
                    ⟨none, some 39, .p (.ext (.s 34) 1)⟩,
                    ⟨none, some 9, .p (.mv (.s 38))⟩,
                    ⟨none, some 10, .p (.mv (.s 39))⟩])] (.one .nil))
                (.seq
                  (.seq
                    (.ops [
                        (none, [⟨none, some 40, .p (.mv (.s 10))⟩,
                        ⟨none, some 41, .p (.bin .neq (.s 40) (.c (.int .i64 0)))⟩])] (.one .nil))
                    (.cond (.s 41)
                      (.seq
                        (.ops [
                            (none, [⟨none, some 42, .p (.mv (.s 10))⟩,
                            ⟨none, some 4, .p (.mv (.c (.string ⟨#[]⟩)))⟩,
                            ⟨none, some 5, .p (.mv (.s 42))⟩])] (.one .nil))
                        .ret)
                      .skip))
                  (.seq
                    (.ops [
                        (none, [⟨none, some 43, .p (.mv (.s 7))⟩,
                        ⟨none, some 44, .p (.fld (.s 3) 0)⟩,
                        ⟨none, some 45, .r (.ld (.s 44) none)⟩,
                        ⟨none, some 46, .p (.idx (.s 43) (.s 45) none 1)⟩,
                        ⟨none, some 47, .r (.ld (.s 46) none)⟩,
                        ⟨none, some 48, .p (.mv (.s 9))⟩,
                        ⟨none, some 49, .e (.call (.c (.func (.func 20) ⟨[]⟩ ⟨[]⟩)) [.s 47, .s 48])⟩,
                        ⟨none, some 4, .p (.mv (.s 49))⟩,
                        ⟨none, some 5, .p (.mv (.c (.int .i64 0)))⟩])] (.one .nil))
                    .ret)))))))))
theorem cfn14 : cfn Tryz.prog 14 = some ⟨50, 6, d14.erase, [(.s 4, none), (.s 5, none)]⟩ := by kernel_rfl
theorem ok14 : d14.ok 50 6 = true := by kernel_rfl
noncomputable def F14 (a0 a1 : Value) (H : Heap) (nx : Nat) (k : EP) : Prop :=
  dBox a1 fun tc_1 => wNew (.cells tc_1 0) .ptr H nx fun t3_2 H1 nx1 =>
  wCall Tryz.prog 34 [a0] H1 nx1 fun t12_3 H2 nx2 =>
  wBin .neq t12_3 (.int .i64 0) fun t14_4 =>
  wIf t14_4 (
    forceV (.tuple ⟨[(.string ⟨#[]⟩), t12_3]⟩) fun tv_5 => k tv_5 H2 nx2) (
    wCall Tryz.prog 35 [] H2 nx2 fun t16_6 H3 nx3 =>
    wJoin (fun tj_7 =>
      wFld t3_2 0 fun t17_9 =>
      wLd t17_9 none H3 fun t18_10 =>
      wBin .lss t18_10 (.int .i64 0) fun t19_11 =>
      wGuard false t19_11 (
        wFld t3_2 0 fun t21_12 =>
        wLd t21_12 none H3 fun t22_13 =>
        wLen t16_6 0 H3 fun t24_14 =>
        wBin .geq t22_13 t24_14 fun t25_15 =>
        tj_7 [t25_15] H3 nx3) (
        tj_7 [(.bool true)] H3 nx3)) (fun tL_8 H4 nx4 =>
      wIf (tL_8.getD 0 undef) (
        forceV (.tuple ⟨[(.string ⟨#[]⟩), (.int .i64 2)]⟩) fun tv_16 => k tv_16 H4 nx4) (
        wFld t3_2 2 fun t27_17 =>
        wLd t27_17 none H4 fun t28_18 =>
        wJoin (fun tj_19 =>
          wFld t3_2 0 fun t29_21 =>
          wLd t29_21 none H4 fun t30_22 =>
          wBin .eql t30_22 (.int .i64 0) fun t31_23 =>
          wIf t31_23 (
            wFld t3_2 1 fun t32_24 =>
            wLd t32_24 none H4 fun t33_25 =>
            tj_19 [t33_25] H4 nx4) (
            tj_19 [t28_18] H4 nx4)) (fun tL_20 H5 nx5 =>
          wCall Tryz.prog 36 [a0, (tL_20.getD 0 undef)] H5 nx5 fun t37_26 H6 nx6 =>
          wExt t37_26 0 fun t38_27 =>
          wExt t37_26 1 fun t39_28 =>
          wBin .neq t39_28 (.int .i64 0) fun t41_29 =>
          wIf t41_29 (
            forceV (.tuple ⟨[(.string ⟨#[]⟩), t39_28]⟩) fun tv_30 => k tv_30 H6 nx6) (
            wFld t3_2 0 fun t44_31 =>
            wLd t44_31 none H6 fun t45_32 =>
            wIdx t16_6 t45_32 none 1 fun t46_33 =>
            wLd t46_33 none H6 fun t47_34 =>
            wCall Tryz.prog 20 [t47_34, t38_27] H6 nx6 fun t49_35 H7 nx7 =>
            forceV (.tuple ⟨[t49_35, (.int .i64 0)]⟩) fun tv_36 => k tv_36 H7 nx7)))))
theorem eq14 (a0 a1 : Value) (H : Heap) (nx : Nat) (k : EP) : wBody Tryz.prog 50 6 d14 [(.s 4, none), (.s 5, none)] [a0, a1] H nx k = F14 a0 a1 H nx k := by kernel_rfl
theorem spec14 {a0 a1 : Value} {H : Heap} {nx : Nat} {k : EP} (h : F14 a0 a1 H nx k) : Ans Tryz.prog 14 [a0, a1] H nx k :=
  spec_of_body mixed namesOK cfn14 ok14 (by simp) ((eq14 a0 a1 H nx k).symm ▸ h)

/-! 40: ordinal/explain.ParseVerdict$1 -/
def d40 : D :=
  (.seq
    (.ops [
        (none, [⟨none, some 3, .p (.mv (.c (.int .i64 0)))⟩,
        ⟨none, some 4, .p (.mv (.c (.bool false)))⟩])] (.one .nil))
    (.seq
      (.ops [
          (none, [⟨none, some 8, .r (.ld (.s 1) none)⟩,
          ⟨none, some 9, .p (.mv (.s 0))⟩,
          ⟨none, some 10, .r (.lk .string (.int .i64 0) (.s 8) (.s 9) true)⟩,
          ⟨none, some 7, .p (.mv (.s 10))⟩,
          ⟨none, some 11, .p (.ext (.s 7) 0)⟩,
          ⟨none, some 12, .p (.ext (.s 7) 1)⟩,
          ⟨none, some 5, .p (.mv (.s 11))⟩,
          ⟨none, some 6, .p (.mv (.s 12))⟩])] (.one .nil))
      (.seq
        (.ops [
            (none, [⟨none, some 13, .p (.mv (.s 5))⟩,
            ⟨none, some 14, .p (.mv (.s 6))⟩,
            ⟨none, some 3, .p (.mv (.s 13))⟩,
            ⟨none, some 4, .p (.mv (.s 14))⟩])] (.one .nil))
        .ret)))
theorem cfn40 : cfn Tryz.prog 40 = some ⟨15, 4, d40.erase, [(.s 3, none), (.s 4, none)]⟩ := by kernel_rfl
theorem ok40 : d40.ok 15 4 = true := by kernel_rfl
noncomputable def F40 (a0 a1 : Value) (H : Heap) (nx : Nat) (k : EP) : Prop :=
  wLd a1 none H fun t8_1 =>
  wLk .string (.int .i64 0) t8_1 a0 true H fun t10_2 =>
  wExt t10_2 0 fun t11_3 =>
  wExt t10_2 1 fun t12_4 =>
  forceV (.tuple ⟨[t11_3, t12_4]⟩) fun tv_5 => k tv_5 H nx
theorem eq40 (a0 a1 : Value) (H : Heap) (nx : Nat) (k : EP) : wBody Tryz.prog 15 4 d40 [(.s 3, none), (.s 4, none)] [a0, a1] H nx k = F40 a0 a1 H nx k := by kernel_rfl
theorem spec40 {a0 a1 : Value} {H : Heap} {nx : Nat} {k : EP} (h : F40 a0 a1 H nx k) : Ans Tryz.prog 40 [a0, a1] H nx k :=
  spec_of_body mixed namesOK cfn40 ok40 (by simp) ((eq40 a0 a1 H nx k).symm ▸ h)

/-! 16: slices.Equal[[]int,int] -/
def d16 : D :=
  (.seq
    (.ops [
        (none, [⟨none, some 4, .p (.mv (.c (.bool false)))⟩])] (.one .nil))
    (.seq
      (.seq
        (.ops [
            (none, [⟨none, some 6, .p (.mv (.s 0))⟩,
            ⟨none, some 7, .r (.len (.s 6) 0)⟩,
            ⟨none, some 8, .p (.mv (.s 1))⟩,
            ⟨none, some 9, .r (.len (.s 8) 0)⟩,
            ⟨none, some 10, .p (.bin .neq (.s 7) (.s 9))⟩])] (.one .nil))
        (.cond (.s 10)
          (.seq
            (.ops [
                (none, [⟨none, some 4, .p (.mv (.c (.bool false)))⟩])] (.one .nil))
            .ret)
          .skip))
      (.seq
        (.seq
          (.ops [
              (none, [⟨none, some 11, .p (.mv (.s 0))⟩,
              ⟨none, some 12, .r (.len (.s 11) 0)⟩,
              ⟨none, some 13, .p (.mv (.c (.int .i64 0)))⟩])] (.one .nil))
          (.block 0
            (.loop [13] [4, 5, 14, 15, 16, 17, 18, 19, 20, 21, 22, 23, 24, 25]
              (.seq
                (.ops [
                    (none, [⟨none, some 14, .p (.bin .lss (.s 13) (.s 12))⟩])] (.one .nil))
                (.seq
                  (.cond (.s 14)
                    .skip
                    (.exit 0))
                  (.seq
                    (.block 1
                      (.seq
                        (.ops [
                            (none, [⟨none, some 15, .p (.mv (.s 13))⟩,
                            ⟨none, some 5, .p (.mv (.s 15))⟩])] (.one .nil))
                        (.seq
                          (.draw [0, 0, 3, 7, 0, 0, 48, 112, 255] [
                              (none, [⟨none, some 16, .p (.mv (.s 0))⟩,
                              ⟨none, some 17, .p (.mv (.s 5))⟩,
                              ⟨none, some 18, .p (.idx (.s 16) (.s 17) none 1)⟩,
                              ⟨none, some 19, .r (.ld (.s 18) none)⟩,
                              ⟨none, some 20, .p (.mv (.s 1))⟩,
                              ⟨none, some 21, .p (.mv (.s 5))⟩,
                              ⟨none, some 22, .p (.idx (.s 20) (.s 21) none 1)⟩,
                              ⟨none, some 23, .r (.ld (.s 22) none)⟩,
                              ⟨none, some 24, .p (.bin .neq (.s 19) (.s 23))⟩])] (.one .nil))
                          (.cond (.s 24)
                            (.seq
                              (.ops [
                                  (none, [⟨none, some 4, .p (.mv (.c (.bool false)))⟩])] (.one .nil))
                              .ret)
                            .skip))))
                    (.ops [
                        (none, [⟨none, some 25, .p (.bin .add (.s 13) (.c (.int .i64 1)))⟩,
                        ⟨none, some 13, .p (.mv (.s 25))⟩])] (.one .nil))))))))
        (.seq
          (.ops [
              (none, [⟨none, some 4, .p (.mv (.c (.bool true)))⟩])] (.one .nil))
          .ret))))
theorem cfn16 : cfn Tryz.prog 16 = some ⟨26, 5, d16.erase, [(.s 4, none)]⟩ := by kernel_rfl
theorem ok16 : d16.ok 26 5 = true := by kernel_rfl
noncomputable def F16 (a0 a1 : Value) (H : Heap) (nx : Nat) (k : EP) : Prop :=
  wLen a0 0 H fun t7_1 =>
  wLen a1 0 H fun t9_2 =>
  wBin .neq t7_1 t9_2 fun t10_3 =>
  wIf t10_3 (
    forceV (.bool false) fun tv_4 => k tv_4 H nx) (
    wLen a0 0 H fun t12_5 =>
    wLoop (fun tih_6 tL_7 H1 nx1 =>
      wBin .lss (tL_7.getD 0 undef) t12_5 fun t14_8 =>
      wIf t14_8 (
        forceN (nx1 + 9) fun nx2 =>
        wIdx a0 (tL_7.getD 0 undef) none 1 fun t18_9 =>
        wLd t18_9 none H1 fun t19_10 =>
        wIdx a1 (tL_7.getD 0 undef) none 1 fun t22_11 =>
        wLd t22_11 none H1 fun t23_12 =>
        wBin .neq t19_10 t23_12 fun t24_13 =>
        (((((wLd t22_11 none H1 fun tq_15 => tq_15 = t23_12) ∧ True) ∧ (((wLd t18_9 none H1 fun tq_14 => tq_14 = t19_10) ∧ True) ∧ True))) ∧ (
          wIf t24_13 (
            forceV (.bool false) fun tv_16 => k tv_16 H1 nx2) (
            wBin .add (tL_7.getD 0 undef) (.int .i64 1) fun t25_17 =>
            tih_6 [t25_17] H1 nx2))) ∨ False) (
        forceV (.bool true) fun tv_18 => k tv_18 H1 nx1)) [(.int .i64 0)] H nx)
theorem eq16 (a0 a1 : Value) (H : Heap) (nx : Nat) (k : EP) : wBody Tryz.prog 26 5 d16 [(.s 4, none)] [a0, a1] H nx k = F16 a0 a1 H nx k := by kernel_rfl
theorem spec16 {a0 a1 : Value} {H : Heap} {nx : Nat} {k : EP} (h : F16 a0 a1 H nx k) : Ans Tryz.prog 16 [a0, a1] H nx k :=
  spec_of_body mixed namesOK cfn16 ok16 (by simp) ((eq16 a0 a1 H nx k).symm ▸ h)

/-! 38: slices.Index[[]string,string] -/
def d38 : D :=
  (.seq
    (.ops [
        (none, [⟨none, some 4, .p (.mv (.c (.int .i64 0)))⟩])] (.one .nil))
    (.seq
      (.seq
        (.ops [
            (none, [⟨none, some 6, .p (.mv (.s 0))⟩,
            ⟨none, some 7, .r (.len (.s 6) 0)⟩,
            ⟨none, some 8, .p (.mv (.c (.int .i64 0)))⟩])] (.one .nil))
        (.block 0
          (.loop [8] [4, 5, 9, 10, 11, 12, 13, 14, 15, 16, 17, 18]
            (.seq
              (.ops [
                  (none, [⟨none, some 9, .p (.bin .lss (.s 8) (.s 7))⟩])] (.one .nil))
              (.seq
                (.cond (.s 9)
                  .skip
                  (.exit 0))
                (.seq
                  (.block 1
                    (.seq
                      (.ops [
                          (none, [⟨none, some 10, .p (.mv (.s 8))⟩,
                          ⟨none, some 5, .p (.mv (.s 10))⟩])] (.one .nil))
                      (.seq
                        (.ops [
                            (none, [⟨none, some 11, .p (.mv (.s 1))⟩,
                            ⟨none, some 12, .p (.mv (.s 0))⟩,
                            ⟨none, some 13, .p (.mv (.s 5))⟩,
                            ⟨none, some 14, .p (.idx (.s 12) (.s 13) none 1)⟩,
                            ⟨none, some 15, .r (.ld (.s 14) none)⟩,
                            ⟨none, some 16, .p (.bin .eql (.s 11) (.s 15))⟩])] (.one .nil))
                        (.cond (.s 16)
                          (.seq
                            (.ops [
                                (none, [⟨none, some 17, .p (.mv (.s 5))⟩,
                                ⟨none, some 4, .p (.mv (.s 17))⟩])] (.one .nil))
                            .ret)
                          .skip))))
                  (.ops [
                      (none, [⟨none, some 18, .p (.bin .add (.s 8) (.c (.int .i64 1)))⟩,
                      ⟨none, some 8, .p (.mv (.s 18))⟩])] (.one .nil))))))))
      (.seq
        (.ops [
            (none, [⟨none, some 4, .p (.mv (.c (.int .i64 (-1))))⟩])] (.one .nil))
        .ret)))
theorem cfn38 : cfn Tryz.prog 38 = some ⟨19, 5, d38.erase, [(.s 4, none)]⟩ := by kernel_rfl
theorem ok38 : d38.ok 19 5 = true := by kernel_rfl
noncomputable def F38 (a0 a1 : Value) (H : Heap) (nx : Nat) (k : EP) : Prop :=
  wLen a0 0 H fun t7_1 =>
  wLoop (fun tih_2 tL_3 H1 nx1 =>
    wBin .lss (tL_3.getD 0 undef) t7_1 fun t9_4 =>
    wIf t9_4 (
      wIdx a0 (tL_3.getD 0 undef) none 1 fun t14_5 =>
      wLd t14_5 none H1 fun t15_6 =>
      wBin .eql a1 t15_6 fun t16_7 =>
      wIf t16_7 (
        forceV (tL_3.getD 0 undef) fun tv_8 => k tv_8 H1 nx1) (
        wBin .add (tL_3.getD 0 undef) (.int .i64 1) fun t18_9 =>
        tih_2 [t18_9] H1 nx1)) (
      forceV (.int .i64 (-1)) fun tv_10 => k tv_10 H1 nx1)) [(.int .i64 0)] H nx
theorem eq38 (a0 a1 : Value) (H : Heap) (nx : Nat) (k : EP) : wBody Tryz.prog 19 5 d38 [(.s 4, none)] [a0, a1] H nx k = F38 a0 a1 H nx k := by kernel_rfl
theorem spec38 {a0 a1 : Value} {H : Heap} {nx : Nat} {k : EP} (h : F38 a0 a1 H nx k) : Ans Tryz.prog 38 [a0, a1] H nx k :=
  spec_of_body mixed namesOK cfn38 ok38 (by simp) ((eq38 a0 a1 H nx k).symm ▸ h)

/-! 39: slices.Contains[[]string,string] -/
def d39 : D :=
  (.seq
    (.ops [
        (none, [⟨none, some 4, .p (.mv (.c (.bool false)))⟩])] (.one .nil))
    (.seq
      (.ops [
          (none, [⟨none, some 5, .p (.mv (.s 0))⟩,
          ⟨none, some 6, .p (.mv (.s 1))⟩,
          ⟨none, some 7, .e (.call (.c (.func (.func 38) ⟨[]⟩ ⟨[]⟩)) [.s 5, .s 6])⟩,
          ⟨none, some 8, .p (.bin .geq (.s 7) (.c (.int .i64 0)))⟩,
          ⟨none, some 4, .p (.mv (.s 8))⟩])] (.one .nil))
      .ret))
theorem cfn39 : cfn Tryz.prog 39 = some ⟨9, 4, d39.erase, [(.s 4, none)]⟩ := by kernel_rfl
theorem ok39 : d39.ok 9 4 = true := by kernel_rfl
noncomputable def F39 (a0 a1 : Value) (H : Heap) (nx : Nat) (k : EP) : Prop :=
  wCall Tryz.prog 38 [a0, a1] H nx fun t7_1 H1 nx1 =>
  wBin .geq t7_1 (.int .i64 0) fun t8_2 =>
  forceV t8_2 fun tv_3 => k tv_3 H1 nx1
theorem eq39 (a0 a1 : Value) (H : Heap) (nx : Nat) (k : EP) : wBody Tryz.prog 9 4 d39 [(.s 4, none)] [a0, a1] H nx k = F39 a0 a1 H nx k := by kernel_rfl
theorem spec39 {a0 a1 : Value} {H : Heap} {nx : Nat} {k : EP} (h : F39 a0 a1 H nx k) : Ans Tryz.prog 39 [a0, a1] H nx k :=
  spec_of_body mixed namesOK cfn39 ok39 (by simp) ((eq39 a0 a1 H nx k).symm ▸ h)

/-! 68: strings.genSplit -/
def d68 : D :=
  (.seq
    (.ops [
        (none, [⟨none, some 8, .p (.mv (.c (.slice none 0 0)))⟩])] (.one .nil))
    (.seq
      (.seq
        (.ops [
            (none, [⟨none, some 12, .p (.mv (.s 3))⟩,
            ⟨none, some 13, .p (.bin .eql (.s 12) (.c (.int .i64 0)))⟩])] (.one .nil))
        (.cond (.s 13)
          (.seq
            (.ops [
                (none, [⟨none, some 8, .p (.mv (.c (.slice none 0 0)))⟩])] (.one .nil))
            .ret)
          .skip))
      (.seq
        (.seq
          (.ops [
              (none, [⟨none, some 14, .p (.mv (.s 1))⟩,
              ⟨none, some 15, .p (.bin .eql (.s 14) (.c (.string ⟨#[]⟩)))⟩])] (.one .nil))
          (.cond (.s 15)
            (.seq
              (.ops [
                  (none, [⟨none, some 16, .p (.mv (.s 0))⟩,
                  ⟨none, some 17, .p (.mv (.s 3))⟩,
                  ⟨none, some 18, .e (.call (.c (.func (.func 97) ⟨[]⟩ ⟨[]⟩)) [.s 16, .s 17])⟩,
                  ⟨none, some 8, .p (.mv (.s 18))⟩])] (.one .nil))
              .ret)
            .skip))
        (.join [3] [19, 20, 21, 22, 23, 24]
          (.seq
            (.ops [
                (none, [⟨none, some 19, .p (.mv (.s 3))⟩,
                ⟨none, some 20, .p (.bin .lss (.s 19) (.c (.int .i64 0)))⟩])] (.one .nil))
            (.cond (.s 20)
              (.ops [
                  (none, [⟨none, some 21, .p (.mv (.s 0))⟩,
                  ⟨none, some 22, .p (.mv (.s 1))⟩,
                  ⟨none, some 23, .e (.call (.c (.func (.func 98) ⟨[]⟩ ⟨[]⟩)) [.s 21, .s 22])⟩,
                  ⟨none, some 24, .p (.bin .add (.s 23) (.c (.int .i64 1)))⟩,
                  ⟨none, some 3, .p (.mv (.s 24))⟩])] (.one .nil))
              .skip))
          (.seq
            (.ops [
                (none, [⟨none, some 25, .p (.mv (.s 3))⟩,
                ⟨none, some 26, .p (.mv (.s 0))⟩,
                ⟨none, some 27, .r (.len (.s 26) 1)⟩,
                ⟨none, some 28, .p (.bin .add (.s 27) (.c (.int .i64 1)))⟩,
                ⟨none, some 29, .p (.vf (.mm false) [.s 25, .s 28])⟩,
                ⟨none, some 3, .p (.mv (.s 29))⟩])] (.one .nil))
            (.seq
              (.ops [
                  (none, [⟨none, some 30, .p (.mv (.s 3))⟩,
                  ⟨none, some 31, .a (.msl (.s 30) (.s 30) [.string ⟨#[]⟩])⟩,
                  ⟨none, some 9, .p (.mv (.s 31))⟩])] (.one .nil))
              (.seq
                (.ops [
                    (none, [⟨none, some 32, .p (.mv (.s 3))⟩,
                    ⟨none, some 33, .p (.bin .sub (.s 32) (.c (.int .i64 1)))⟩,
                    ⟨none, some 3, .p (.mv (.s 33))⟩])] (.one .nil))
                (.seq
                  (.ops [
                      (none, [⟨none, some 10, .p (.mv (.c (.int .i64 0)))⟩])] (.one .nil))
                  (.join [0, 10] [11, 34, 35, 36, 37, 38, 39, 40, 41, 42, 43, 44, 45, 46, 47, 48, 49, 50, 51, 52, 53, 54, 55, 56, 57]
                    (.block 0
                      (.loop [0, 10] [11, 34, 35, 36, 37, 38, 39, 40, 41, 42, 43, 44, 45, 46, 47, 48, 49, 50, 51, 52, 53, 54, 55, 56, 57]
                        (.seq
                          (.seq
                            (.ops [
                                (none, [⟨none, some 34, .p (.mv (.s 10))⟩,
                                ⟨none, some 35, .p (.mv (.s 3))⟩,
                                ⟨none, some 36, .p (.bin .lss (.s 34) (.s 35))⟩])] (.one .nil))
                            (.cond (.s 36)
                              .skip
                              (.exit 0)))
                          (.block 1
                            (.seq
                              (.ops [
                                  (none, [⟨none, some 37, .p (.mv (.s 0))⟩,
                                  ⟨none, some 38, .p (.mv (.s 1))⟩,
                                  ⟨none, some 39, .e (.call (.c (.func (.func 99) ⟨[]⟩ ⟨[]⟩)) [.s 37, .s 38])⟩,
                                  ⟨none, some 11, .p (.mv (.s 39))⟩])] (.one .nil))
                              (.seq
                                (.seq
                                  (.ops [
                                      (none, [⟨none, some 40, .p (.mv (.s 11))⟩,
                                      ⟨none, some 41, .p (.bin .lss (.s 40) (.c (.int .i64 0)))⟩])] (.one .nil))
                                  (.cond (.s 41)
                                    (.exit 0)
                                    .skip))
                                (.seq
                                  (.ops [
                                      (none, [⟨none, some 42, .p (.mv (.s 9))⟩,
                                      ⟨none, some 43, .p (.mv (.s 10))⟩,
                                      ⟨none, some 44, .p (.mv (.s 0))⟩,
                                      ⟨none, some 45, .p (.mv (.s 11))⟩,
                                      ⟨none, some 46, .p (.mv (.s 2))⟩,
                                      ⟨none, some 47, .p (.bin .add (.s 45) (.s 46))⟩,
                                      ⟨none, some 48, .p (.vf (.ssl false true) [.s 44, .s 47])⟩,
                                      ⟨none, some 49, .p (.idx (.s 42) (.s 43) none 1)⟩,
                                      ⟨none, none, .e (.st (.s 49) (.s 48) 1)⟩])] (.one .nil))
                                  (.seq
                                    (.ops [
                                        (none, [⟨none, some 50, .p (.mv (.s 0))⟩,
                                        ⟨none, some 51, .p (.mv (.s 11))⟩,
                                        ⟨none, some 52, .p (.mv (.s 1))⟩,
                                        ⟨none, some 53, .r (.len (.s 52) 1)⟩,
                                        ⟨none, some 54, .p (.bin .add (.s 51) (.s 53))⟩,
                                        ⟨none, some 55, .p (.vf (.ssl true false) [.s 50, .s 54])⟩,
                                        ⟨none, some 0, .p (.mv (.s 55))⟩])] (.one .nil))
                                    (.ops [
                                        (none, [⟨none, some 56, .p (.mv (.s 10))⟩,
                                        ⟨none, some 57, .p (.bin .add (.s 56) (.c (.int .i64 1)))⟩,
                                        ⟨none, some 10, .p (.mv (.s 57))⟩])] (.one .nil))))))))))
                    (.seq
                      (.ops [
                          (none, [⟨none, some 58, .p (.mv (.s 9))⟩,
                          ⟨none, some 59, .p (.mv (.s 10))⟩,
                          ⟨none, some 60, .p (.mv (.s 0))⟩,
                          ⟨none, some 61, .p (.idx (.s 58) (.s 59) none 1)⟩,
                          ⟨none, none, .e (.st (.s 61) (.s 60) 1)⟩])] (.one .nil))
                      (.seq
                        (.ops [
                            (none, [⟨none, some 62, .p (.mv (.s 9))⟩,
                            ⟨none, some 63, .p (.mv (.s 10))⟩,
                            ⟨none, some 64, .p (.bin .add (.s 63) (.c (.int .i64 1)))⟩,
                            ⟨none, some 65, .r (.sl (.s 62) 1 none (some (.s 64)) none)⟩,
                            ⟨none, some 8, .p (.mv (.s 65))⟩])] (.one .nil))
                        .ret)))))))))))
theorem cfn68 : cfn Tryz.prog 68 = some ⟨66, 7, d68.erase, [(.s 8, none)]⟩ := by kernel_rfl
theorem ok68 : d68.ok 66 7 = true := by kernel_rfl
noncomputable def F68 (a0 a1 a2 a3 : Value) (H : Heap) (nx : Nat) (k : EP) : Prop :=
  wBin .eql a3 (.int .i64 0) fun t13_1 =>
  wIf t13_1 (
    forceV (.slice none 0 0) fun tv_2 => k tv_2 H nx) (
    wBin .eql a1 (.string ⟨#[]⟩) fun t15_3 =>
    wIf t15_3 (
      wCall Tryz.prog 97 [a0, a3] H nx fun t18_4 H1 nx1 =>
      forceV t18_4 fun tv_5 => k tv_5 H1 nx1) (
      wJoin (fun tj_6 =>
        wBin .lss a3 (.int .i64 0) fun t20_8 =>
        wIf t20_8 (
          wCall Tryz.prog 98 [a0, a1] H nx fun t23_9 H3 nx3 =>
          wBin .add t23_9 (.int .i64 1) fun t24_10 =>
          tj_6 [t24_10] H3 nx3) (
          tj_6 [a3] H nx)) (fun tL_7 H2 nx2 =>
        wLen a0 1 H2 fun t27_11 =>
        wBin .add t27_11 (.int .i64 1) fun t28_12 =>
        wVf (.mm false) [(tL_7.getD 0 undef), t28_12] fun t29_13 =>
        dMsl t29_13 t29_13 [.string ⟨#[]⟩] fun tc_14 tl_16 tm_17 => wNew (.cells tc_14 0) (.slice tl_16 tm_17) H2 nx2 fun t31_15 H4 nx4 =>
        wBin .sub t29_13 (.int .i64 1) fun t33_18 =>
        wJoin (fun tj_19 =>
          wLoop (fun tih_21 tL_22 H6 nx6 =>
            wBin .lss (tL_22.getD 1 undef) t33_18 fun t36_23 =>
            wIf t36_23 (
              wCall Tryz.prog 99 [(tL_22.getD 0 undef), a1] H6 nx6 fun t39_24 H7 nx7 =>
              wBin .lss t39_24 (.int .i64 0) fun t41_25 =>
              wIf t41_25 (
                tj_19 [(tL_22.getD 0 undef), (tL_22.getD 1 undef)] H7 nx7) (
                wBin .add t39_24 a2 fun t47_26 =>
                wVf (.ssl false true) [(tL_22.getD 0 undef), t47_26] fun t48_27 =>
                wIdx t31_15 (tL_22.getD 1 undef) none 1 fun t49_28 =>
                wSt t49_28 t48_27 1 H7 fun H8 =>
                wLen a1 1 H8 fun t53_29 =>
                wBin .add t39_24 t53_29 fun t54_30 =>
                wVf (.ssl true false) [(tL_22.getD 0 undef), t54_30] fun t55_31 =>
                wBin .add (tL_22.getD 1 undef) (.int .i64 1) fun t57_32 =>
                tih_21 [t55_31, t57_32] H8 nx7)) (
              tj_19 [(tL_22.getD 0 undef), (tL_22.getD 1 undef)] H6 nx6)) [a0, (.int .i64 0)] H4 nx4) (fun tL_20 H5 nx5 =>
          wIdx t31_15 (tL_20.getD 1 undef) none 1 fun t61_33 =>
          wSt t61_33 (tL_20.getD 0 undef) 1 H5 fun H9 =>
          wBin .add (tL_20.getD 1 undef) (.int .i64 1) fun t64_34 =>
          wSl t31_15 1 none (some t64_34) none H9 fun t65_35 =>
          forceV t65_35 fun tv_36 => k tv_36 H9 nx5))))
theorem eq68 (a0 a1 a2 a3 : Value) (H : Heap) (nx : Nat) (k : EP) : wBody Tryz.prog 66 7 d68 [(.s 8, none)] [a0, a1, a2, a3] H nx k = F68 a0 a1 a2 a3 H nx k := by kernel_rfl
theorem spec68 {a0 a1 a2 a3 : Value} {H : Heap} {nx : Nat} {k : EP} (h : F68 a0 a1 a2 a3 H nx k) : Ans Tryz.prog 68 [a0, a1, a2, a3] H nx k :=
  spec_of_body mixed namesOK cfn68 ok68 (by simp) ((eq68 a0 a1 a2 a3 H nx k).symm ▸ h)

/-! 37: strings.Split -/
def d37 : D :=
  (.seq
    (.ops [
        (none, [⟨none, some 4, .p (.mv (.c (.slice none 0 0)))⟩])] (.one .nil))
    (.seq
      (.ops [
          (none, [⟨none, some 5, .p (.mv (.s 0))⟩,
          ⟨none, some 6, .p (.mv (.s 1))⟩,
          ⟨none, some 7, .e (.call (.c (.func (.func 68) ⟨[]⟩ ⟨[]⟩)) [.s 5, .s 6, .c (.int .i64 0), .c (.int .i64 (-1))])⟩,
          ⟨none, some 4, .p (.mv (.s 7))⟩])] (.one .nil))
      .ret))
theorem cfn37 : cfn Tryz.prog 37 = some ⟨8, 4, d37.erase, [(.s 4, none)]⟩ := by kernel_rfl
theorem ok37 : d37.ok 8 4 = true := by kernel_rfl
noncomputable def F37 (a0 a1 : Value) (H : Heap) (nx : Nat) (k : EP) : Prop :=
  wCall Tryz.prog 68 [a0, a1, (.int .i64 0), (.int .i64 (-1))] H nx fun t7_1 H1 nx1 =>
  forceV t7_1 fun tv_2 => k tv_2 H1 nx1
theorem eq37 (a0 a1 : Value) (H : Heap) (nx : Nat) (k : EP) : wBody Tryz.prog 8 4 d37 [(.s 4, none)] [a0, a1] H nx k = F37 a0 a1 H nx k := by kernel_rfl
theorem spec37 {a0 a1 : Value} {H : Heap} {nx : Nat} {k : EP} (h : F37 a0 a1 H nx k) : Ans Tryz.prog 37 [a0, a1] H nx k :=
  spec_of_body mixed namesOK cfn37 ok37 (by simp) ((eq37 a0 a1 H nx k).symm ▸ h)

end Go.Proofs.YthbdeaeghipliaaGreatDoor

set_option linter.unusedSimpArgs false
set_option linter.unusedVariables false
set_option linter.unusedSectionVars false
namespace Go.Proofs.YthbdeaeghipliaaGreatDoor
open Go.Clo

def Tail (s : ByteArray) : Prop := ∃ a b : UInt8, 2 < s.size ∧ s[s.size - 2]? = some a ∧ s[s.size - 1]? = some b ∧ a.toNat = 46 ∧ 49 ≤ b.toNat ∧ b.toNat ≤ 51
open Classical in
noncomputable def strip (s : ByteArray) : ByteArray := if Tail s then s.extract 0 (s.size - 2) else s
open Classical in
noncomputable def validB (s : ByteArray) : Bool := decide (NameOK (strip s))
theorem strip_size (s : ByteArray) : (strip s).size ≤ s.size := by
  unfold strip
  split
  · rw [ByteArray.size_extract]; omega
  · exact Nat.le_refl _
theorem strip_yes {s : ByteArray} {a b : UInt8} (h1 : 2 < s.size) (ha : s[s.size - 2]? = some a) (hb : s[s.size - 1]? = some b) (q1 : a.toNat = 46) (q2 : 49 ≤ b.toNat) (q3 : b.toNat ≤ 51) : strip s = s.extract 0 (s.size - 2) := if_pos ⟨a, b, h1, ha, hb, q1, q2, q3⟩
theorem strip_short {s : ByteArray} (h1 : ¬ 2 < s.size) : strip s = s := if_neg fun ⟨_, _, h, _⟩ => h1 h
theorem strip_no {s : ByteArray} {a b : UInt8} (ha : s[s.size - 2]? = some a) (hb : s[s.size - 1]? = some b) (h : ¬ (a.toNat = 46 ∧ 49 ≤ b.toNat ∧ b.toNat ≤ 51)) : strip s = s := if_neg fun ⟨a', b', _, ha', hb', q1, q2, q3⟩ => by
  rw [ha] at ha'; rw [hb] at hb'
  cases ha'; cases hb'
  exact h ⟨q1, q2, q3⟩

theorem valid29 (s : ByteArray) (H : Heap) (nx : Nat) (hs : s.size ≤ 1000000) : Ans Tryz.prog 64 [.string s] H nx fun r H' nx' => .bool (validB s) = r ∧ H = H' ∧ nx = nx' := by
  refine spec64 ?_
  unfold F64
  refine wJoin_rule (fun L H' nx' => L = [.string (strip s)] ∧ H = H' ∧ nx = nx') ?_ ?_
  · intro j hj
    by_cases h1 : 2 < s.size
    · obtain ⟨a, ha⟩ := byte_at (s := s) (i := s.size - 2) (by omega)
      obtain ⟨b, hb⟩ := byte_at (s := s) (i := s.size - 1) (by omega)
      have e1 : (s.size : Int) - 2 = ((s.size - 2 : Nat) : Int) := by omega
      have e2 : ((s.size - 2 : Nat) : Int) + 1 = ((s.size - 1 : Nat) : Int) := by omega
      have ea := fun k => wVf_sidx ha .i64 k
      have eb := fun k => wVf_sidx hb .i64 k
      have et := fun k => wVf_take (s := s) (h := s.size - 2) (by omega) k
      have g1 : (0 : Int) < ((s.size - 2 : Nat) : Int) := by omega
      by_cases q1 : a.toNat = 46
      · have q1' : decide ((a.toNat : Int) = 46) = true := by simp; omega
        by_cases q2 : 49 ≤ b.toNat
        · have q2' : (49 : Int) ≤ (b.toNat : Int) := by omega
          by_cases q3 : b.toNat ≤ 51
          · have q3' : (b.toNat : Int) ≤ 51 := by omega
            simp (disch := first | omega | assumption | exact shr_lt (by assumption) | exact ndiff32 (by assumption) | exact below_lt (by omega) | fail) only [List.getD_cons_zero, wBin_leq, wBin_gtr, wBin_eql, wIf_bool, wGuard_true, wLen_string, decide_true, if_true, if_false, Bool.false_eq_true, wBin_add64, wBin_sub64, wJoin_eq, e1, e2, ea, eb, et, g1, q1', q2', q3']
            exact hj _ _ _ ⟨by rw [strip_yes h1 ha hb q1 q2 q3], rfl, rfl⟩
          · have q3' : ¬ (b.toNat : Int) ≤ 51 := by omega
            simp (disch := first | omega | assumption | exact shr_lt (by assumption) | exact ndiff32 (by assumption) | exact below_lt (by omega) | fail) only [List.getD_cons_zero, wBin_leq, wBin_gtr, wBin_eql, wIf_bool, wGuard_true, wLen_string, decide_true, decide_false, if_true, if_false, Bool.false_eq_true, wBin_add64, wBin_sub64, wJoin_eq, e1, e2, ea, eb, et, g1, q1', q2', q3']
            exact hj _ _ _ ⟨by rw [strip_no ha hb (fun h => q3 h.2.2)], rfl, rfl⟩
        · have q2' : ¬ (49 : Int) ≤ (b.toNat : Int) := by omega
          simp (disch := first | omega | assumption | exact shr_lt (by assumption) | exact ndiff32 (by assumption) | exact below_lt (by omega) | fail) only [List.getD_cons_zero, wBin_leq, wBin_gtr, wBin_eql, wIf_bool, wGuard_true, wLen_string, decide_true, decide_false, if_true, if_false, Bool.false_eq_true, wBin_add64, wBin_sub64, wJoin_eq, e1, e2, ea, eb, et, g1, q1', q2']
          exact hj _ _ _ ⟨by rw [strip_no ha hb (fun h => q2 h.2.1)], rfl, rfl⟩
      · have q1' : decide ((a.toNat : Int) = 46) = false := by simp; omega
        simp (disch := first | omega | assumption | exact shr_lt (by assumption) | exact ndiff32 (by assumption) | exact below_lt (by omega) | fail) only [List.getD_cons_zero, wBin_leq, wBin_gtr, wBin_eql, wIf_bool, wGuard_true, wLen_string, decide_true, if_true, if_false, Bool.false_eq_true, wBin_add64, wBin_sub64, wJoin_eq, e1, e2, ea, eb, et, g1, q1']
        exact hj _ _ _ ⟨by rw [strip_no ha hb (fun h => q1 h.1)], rfl, rfl⟩
    · have g1 : ¬ (0 : Int) < (s.size : Int) - 2 := by omega
      simp (disch := first | omega | assumption | exact shr_lt (by assumption) | exact ndiff32 (by assumption) | exact below_lt (by omega) | fail) only [List.getD_cons_zero, wBin_gtr, wIf_bool, wGuard_true, wLen_string, decide_false, if_false, Bool.false_eq_true, wBin_add64, wBin_sub64, wJoin_eq, g1]
      exact hj _ _ _ ⟨by rw [strip_short h1], rfl, rfl⟩
  · rintro _ _ _ ⟨rfl, rfl, rfl⟩
    simp (disch := first | omega | assumption | exact shr_lt (by assumption) | exact ndiff32 (by assumption) | exact below_lt (by omega) | fail) only [List.getD_cons_zero, forceV_eq]
    refine wCall_rule (catalog37 (strip s) H nx (Nat.le_trans (strip_size s) hs)) ?_
    rintro _ _ _ ⟨⟨c, rfl, hc⟩, rfl, rfl⟩
    simp (disch := first | omega | assumption | exact shr_lt (by assumption) | exact ndiff32 (by assumption) | exact below_lt (by omega) | fail) only [and_true, and_self]
    congr 1
    unfold validB
    cases c with
    | true => simp [hc.1 rfl]
    | false => simp; exact fun h => by simpa using hc.2 h

theorem valid34 (s : ByteArray) (H : Heap) (nx : Nat) (hs : s.size ≤ 1000000) : Ans Tryz.prog 78 [.string s] H nx fun r H' nx' => .bool (validB s) = r ∧ H = H' ∧ nx = nx' := by
  refine spec78 ?_
  unfold F78
  simp only [wLen_string]
  refine wJoin_rule (fun L H' nx' => L = [.string (strip s)] ∧ H = H' ∧ nx = nx') ?_ ?_
  · intro j hj
    by_cases h1 : 2 < s.size
    · obtain ⟨a, ha⟩ := byte_at (s := s) (i := s.size - 2) (by omega)
      obtain ⟨b, hb⟩ := byte_at (s := s) (i := s.size - 1) (by omega)
      have e1 : (s.size : Int) - 2 = ((s.size - 2 : Nat) : Int) := by omega
      have e2 : (s.size : Int) - 1 = ((s.size - 1 : Nat) : Int) := by omega
      have ea := fun k => wVf_sidx ha .i64 k
      have eb := fun k => wVf_sidx hb .i64 k
      have et := fun k => wVf_take (s := s) (h := s.size - 2) (by omega) k
      have g1 : (2 : Int) < (s.size : Int) := by omega
      by_cases q1 : a.toNat = 46
      · have q1' : decide ((a.toNat : Int) = 46) = true := by simp; omega
        by_cases q2 : 49 ≤ b.toNat
        · have q2' : (49 : Int) ≤ (b.toNat : Int) := by omega
          by_cases q3 : b.toNat ≤ 51
          · have q3' : (b.toNat : Int) ≤ 51 := by omega
            simp (disch := first | omega | assumption | exact shr_lt (by assumption) | exact ndiff32 (by assumption) | exact below_lt (by omega) | fail) only [List.getD_cons_zero, wBin_leq, wBin_gtr, wBin_geq, wBin_eql, wIf_bool, wGuard_true, decide_true, if_true, wBin_sub64, wJoin_eq, e1, e2, ea, eb, et, g1, q1', q2', q3']
            exact hj _ _ _ ⟨by rw [strip_yes h1 ha hb q1 q2 q3], rfl, rfl⟩
          · have q3' : ¬ (b.toNat : Int) ≤ 51 := by omega
            simp (disch := first | omega | assumption | exact shr_lt (by assumption) | exact ndiff32 (by assumption) | exact below_lt (by omega) | fail) only [List.getD_cons_zero, wBin_leq, wBin_gtr, wBin_geq, wBin_eql, wIf_bool, wGuard_true, decide_true, decide_false, if_true, if_false, Bool.false_eq_true, wBin_sub64, wJoin_eq, e1, e2, ea, eb, et, g1, q1', q2', q3']
            exact hj _ _ _ ⟨by rw [strip_no ha hb (fun h => q3 h.2.2)], rfl, rfl⟩
        · have q2' : ¬ (49 : Int) ≤ (b.toNat : Int) := by omega
          simp (disch := first | omega | assumption | exact shr_lt (by assumption) | exact ndiff32 (by assumption) | exact below_lt (by omega) | fail) only [List.getD_cons_zero, wBin_leq, wBin_gtr, wBin_geq, wBin_eql, wIf_bool, wGuard_true, decide_true, decide_false, if_true, if_false, Bool.false_eq_true, wBin_sub64, wJoin_eq, e1, e2, ea, eb, et, g1, q1', q2']
          exact hj _ _ _ ⟨by rw [strip_no ha hb (fun h => q2 h.2.1)], rfl, rfl⟩
      · have q1' : decide ((a.toNat : Int) = 46) = false := by simp; omega
        simp (disch := first | omega | assumption | exact shr_lt (by assumption) | exact ndiff32 (by assumption) | exact below_lt (by omega) | fail) only [List.getD_cons_zero, wBin_leq, wBin_gtr, wBin_geq, wBin_eql, wIf_bool, wGuard_true, decide_true, if_true, if_false, Bool.false_eq_true, wBin_sub64, wJoin_eq, e1, e2, ea, eb, et, g1, q1']
        exact hj _ _ _ ⟨by rw [strip_no ha hb (fun h => q1 h.1)], rfl, rfl⟩
    · have g1 : ¬ (2 : Int) < (s.size : Int) := by omega
      simp (disch := first | omega | assumption | exact shr_lt (by assumption) | exact ndiff32 (by assumption) | exact below_lt (by omega) | fail) only [List.getD_cons_zero, wBin_gtr, wIf_bool, wGuard_true, decide_false, if_false, Bool.false_eq_true, wBin_sub64, wJoin_eq, g1]
      exact hj _ _ _ ⟨by rw [strip_short h1], rfl, rfl⟩
  · rintro _ _ _ ⟨rfl, rfl, rfl⟩
    simp (disch := first | omega | assumption | exact shr_lt (by assumption) | exact ndiff32 (by assumption) | exact below_lt (by omega) | fail) only [List.getD_cons_zero, forceV_eq]
    refine wCall_rule (plain44 (strip s) H nx (Nat.le_trans (strip_size s) hs)) ?_
    rintro _ _ _ ⟨⟨c, rfl, hc⟩, rfl, rfl⟩
    simp (disch := first | omega | assumption | exact shr_lt (by assumption) | exact ndiff32 (by assumption) | exact below_lt (by omega) | fail) only [and_true, and_self]
    congr 1
    unfold validB
    cases c with
    | true => simp [hc.1 rfl]
    | false => simp; exact fun h => by simpa using hc.2 h

theorem not28 (s : ByteArray) (H : Heap) (nx : Nat) (hs : s.size ≤ 1000000) : Ans Tryz.prog 63 [.string s] H nx fun r H' nx' => .bool (!validB s) = r ∧ H = H' ∧ nx = nx' := by
  refine spec63 ?_
  unfold F63
  refine wCall_rule (valid29 s H nx hs) ?_
  rintro _ _ _ ⟨rfl, rfl, rfl⟩
  simp (disch := first | omega | assumption | exact shr_lt (by assumption) | exact ndiff32 (by assumption) | exact below_lt (by omega) | fail) only [wUn_not, forceV_eq, and_true, and_self]

/-- The names of an argument: of at most 60 bytes each. -/
def Short (vs : List ByteArray) : Prop := ∀ s ∈ vs, s.size ≤ 60
theorem Short.get {vs : List ByteArray} (h : Short vs) {i : Nat} {s : ByteArray} (hi : vs[i]? = some s) : s.size ≤ 60 := h s (List.mem_of_getElem? hi)

theorem index36 (A : Option Addr) (vs : List ByteArray) (cap : Nat) (H : Heap) (nx : Nat) (hS : Sl H nx A (strs vs)) (hv : Short vs) (hl : vs.length ≤ 1000000) : Ans Tryz.prog 92 [.slice A vs.length cap, .func (.func 63) ⟨[]⟩ ⟨[]⟩] H nx fun r H' nx' => (∃ x : Int, r = .int .i64 x ∧ (0 ≤ x ↔ ∃ s ∈ vs, validB s = false)) ∧ H = H' ∧ nx = nx' := by
  refine spec92 ?_
  unfold F92
  simp (disch := first | omega | assumption | exact shr_lt (by assumption) | exact ndiff32 (by assumption) | exact below_lt (by omega) | fail) only [wLen_slice, forceV_eq]
  refine wLoop_rule (fun m L H' nx' => ∃ i : Nat, m + i = vs.length ∧ L = [.int .i64 (i : Int)] ∧ (∀ (j : Nat) (s : ByteArray), j < i → vs[j]? = some s → validB s = true) ∧ H = H' ∧ nx = nx') ?_ (m := vs.length) ⟨0, by omega, rfl, fun j s hj => by omega, rfl, rfl⟩
  rintro m ih L _ _ ⟨i, hm, rfl, hst, rfl, rfl⟩ hih
  simp (disch := first | omega | assumption | exact shr_lt (by assumption) | exact ndiff32 (by assumption) | exact below_lt (by omega) | fail) only [List.getD_cons_zero, wBin_lss, wIf_bool, and_true, and_self, wBin_add64]
  by_cases hi : i < vs.length
  · have hi' : (i : Int) < (vs.length : Int) := by omega
    obtain ⟨b, o, row, rfl, hb, hrow, hget⟩ := hS.open (i := i) (by rw [strs_length]; exact hi)
    have hv0 : vs[i]? = some vs[i] := List.getElem?_eq_getElem hi
    simp (disch := first | omega | assumption | exact shr_lt (by assumption) | exact ndiff32 (by assumption) | exact below_lt (by omega) | fail) only [wLd_none, cellP_one, Option.elim_some, decide_true, if_true, wIdx_slice, Int.toNat_natCast, Nat.mul_one, hi', ldP_row hrow, hget _ _ (strs_get hv0)]
    refine wCallV_rule (not28 vs[i] H nx (by have := hv.get hv0; omega)) ?_
    rintro _ _ _ ⟨rfl, rfl, rfl⟩
    cases hb : validB vs[i] with
    | false =>
      simp (disch := first | omega | assumption | exact shr_lt (by assumption) | exact ndiff32 (by assumption) | exact below_lt (by omega) | fail) only [wIf_bool, if_true, and_true, Bool.not_false, and_self]
      exact ⟨_, rfl, fun _ => ⟨_, List.getElem_mem hi, hb⟩, fun _ => by omega⟩
    | true =>
      simp (disch := first | omega | assumption | exact shr_lt (by assumption) | exact ndiff32 (by assumption) | exact below_lt (by omega) | fail) only [wIf_bool, if_false, Bool.false_eq_true, and_true, Bool.not_true, and_self]
      exact hih (m - 1) _ _ _ (by omega) ⟨i + 1, by omega, by simp, fun j s hj hs => by
        by_cases hji : j = i
        · subst hji; rw [hv0] at hs; cases hs; exact hb
        · exact hst j s (by omega) hs, rfl, rfl⟩
  · have hi' : ¬ (i : Int) < (vs.length : Int) := by omega
    simp (disch := first | omega | assumption | exact shr_lt (by assumption) | exact ndiff32 (by assumption) | exact below_lt (by omega) | fail) only [decide_false, if_false, Bool.false_eq_true, hi']
    refine ⟨_, rfl, fun h => absurd h (by omega), fun ⟨s, hs, hb⟩ => ?_⟩
    obtain ⟨j, hj⟩ := List.mem_iff_getElem?.1 hs
    have := hst j s (by have := (List.getElem?_eq_some_iff.1 hj).1; omega) hj
    rw [hb] at this; cases this
theorem any27 (A : Option Addr) (vs : List ByteArray) (cap : Nat) (H : Heap) (nx : Nat) (hS : Sl H nx A (strs vs)) (hv : Short vs) (hl : vs.length ≤ 1000000) : Ans Tryz.prog 62 [.slice A vs.length cap, .func (.func 63) ⟨[]⟩ ⟨[]⟩] H nx fun r H' nx' => (∃ c : Bool, r = .bool c ∧ (c = true ↔ ∃ s ∈ vs, validB s = false)) ∧ H = H' ∧ nx = nx' := by
  refine spec62 ?_
  unfold F62
  refine wCall_rule (index36 A vs cap H nx hS hv hl) ?_
  rintro _ _ _ ⟨⟨x, rfl, hx⟩, rfl, rfl⟩
  simp (disch := first | omega | assumption | exact shr_lt (by assumption) | exact ndiff32 (by assumption) | exact below_lt (by omega) | fail) only [wBin_geq, forceV_eq, and_true, and_self]
  exact ⟨_, rfl, by rw [decide_eq_true_eq]; exact hx⟩

open Classical in
/-- The error code of a list of names. -/
noncomputable def codeOf (vs : List ByteArray) : Int := if ∃ s ∈ vs, validB s = false then 7 else if vs.Nodup then 0 else 8

set_option maxHeartbeats 1000000 in
theorem names18 (A : Option Addr) (vs : List ByteArray) (cap : Nat) (H : Heap) (nx : Nat) (hS : Sl H nx A (strs vs)) (hv : Short vs) (hl : vs.length ≤ 1000000) : Ans Tryz.prog 49 [.slice A vs.length cap] H nx fun r H' nx' => .int .i64 (codeOf vs) = r ∧ H = H' ∧ nx ≤ nx' := by
  refine spec49 ?_
  unfold F49
  refine wLoop_rule (fun m L H' nx' => ∃ i : Nat, m + i = vs.length ∧ L = [.int .i64 (i : Int)] ∧ (∀ (j : Nat) (s : ByteArray), j < i → vs[j]? = some s → validB s = true) ∧ H = H' ∧ nx = nx') ?_ (m := vs.length) ⟨0, by omega, rfl, fun j s hj => by omega, rfl, rfl⟩
  rintro m ih L _ _ ⟨i, hm, rfl, hst, rfl, rfl⟩ hih
  simp (disch := first | omega | assumption | exact shr_lt (by assumption) | exact ndiff32 (by assumption) | exact below_lt (by omega) | fail) only [List.getD_cons_zero, wBin_lss, wIf_bool, wLen_slice, forceV_eq, forceN_eq, and_true, or_false, wBin_add64]
  by_cases hi : i < vs.length
  · have hi' : (i : Int) < (vs.length : Int) := by omega
    obtain ⟨b, o, row, rfl, hb, hrow, hget⟩ := hS.open (i := i) (by rw [strs_length]; exact hi)
    have hv0 : vs[i]? = some vs[i] := List.getElem?_eq_getElem hi
    simp (disch := first | omega | assumption | exact shr_lt (by assumption) | exact ndiff32 (by assumption) | exact below_lt (by omega) | fail) only [wLd_none, cellP_one, Option.elim_some, decide_true, if_true, wIdx_slice, Int.toNat_natCast, Nat.mul_one, hi', ldP_row hrow, hget _ _ (strs_get hv0)]
    refine wCall_rule (valid34 vs[i] H nx (by have := hv.get hv0; omega)) ?_
    rintro _ _ _ ⟨rfl, rfl, rfl⟩
    cases hb : validB vs[i] with
    | false =>
      simp (disch := first | omega | assumption | exact shr_lt (by assumption) | exact ndiff32 (by assumption) | exact below_lt (by omega) | fail) only [wIf_bool, wUn_not, if_true, and_true, Bool.not_false, and_self, Nat.le_refl]
      exact by
        unfold codeOf
        rw [if_pos ⟨_, List.getElem_mem hi, hb⟩]
    | true =>
      simp (disch := first | omega | assumption | exact shr_lt (by assumption) | exact ndiff32 (by assumption) | exact below_lt (by omega) | fail) only [wIf_bool, wUn_not, if_false, Bool.false_eq_true, and_true, Bool.not_true, and_self, Nat.le_refl]
      exact hih (m - 1) _ _ _ (by omega) ⟨i + 1, by omega, by simp, fun j s hj hs => by
        by_cases hji : j = i
        · subst hji; rw [hv0] at hs; cases hs; exact hb
        · exact hst j s (by omega) hs, rfl, rfl⟩
  · have hi' : ¬ (i : Int) < (vs.length : Int) := by omega
    have hall : ¬ ∃ s ∈ vs, validB s = false := fun ⟨s, hs, hb⟩ => by
      obtain ⟨j, hj⟩ := List.mem_iff_getElem?.1 hs
      have := hst j s (by have := (List.getElem?_eq_some_iff.1 hj).1; omega) hj
      rw [hb] at this; cases this
    simp (disch := first | omega | assumption | exact shr_lt (by assumption) | exact ndiff32 (by assumption) | exact below_lt (by omega) | fail) only [decide_false, if_false, Bool.false_eq_true, hi']
    refine wLoop_rule (fun m L H' nx' => ∃ p : Nat, m + p = vs.length ∧ L = [.int .i64 (p : Int)] ∧ (∀ (j q : Nat) (s t : ByteArray), j < q → q < p → vs[j]? = some s → vs[q]? = some t → s ≠ t) ∧ H = H' ∧ nx ≤ nx') ?_ (m := vs.length) ⟨0, by omega, rfl, fun j q s t h1 h2 => by omega, rfl, Nat.le_refl _⟩
    rintro m2 ih2 L _ n1 ⟨p, hm2, rfl, hst2, rfl, hn1⟩ hih2
    simp (disch := first | omega | assumption | exact shr_lt (by assumption) | exact ndiff32 (by assumption) | exact below_lt (by omega) | fail) only [List.getD_cons_zero, wBin_lss, wIf_bool, true_and, wBin_add64]
    by_cases hp : p < vs.length
    · have hp' : (p : Int) < (vs.length : Int) := by omega
      simp (disch := first | omega | assumption | exact shr_lt (by assumption) | exact ndiff32 (by assumption) | exact below_lt (by omega) | fail) only [decide_true, if_true, hp']
      have hvp : vs[p]? = some vs[p] := List.getElem?_eq_getElem hp
      refine wLoop_rule (fun m L H' nx' => ∃ q : Nat, m + q = p ∧ L = [.int .i64 (q : Int)] ∧ (∀ (j : Nat) (s : ByteArray), j < q → vs[j]? = some s → s ≠ vs[p]) ∧ H = H' ∧ nx ≤ nx') ?_ (m := p) ⟨0, by omega, rfl, fun j s h => by omega, rfl, hn1⟩
      rintro m3 ih3 L _ n2 ⟨q, hm3, rfl, hst3, rfl, hn2⟩ hih3
      simp (disch := first | omega | assumption | exact shr_lt (by assumption) | exact ndiff32 (by assumption) | exact below_lt (by omega) | fail) only [List.getD_cons_zero, wBin_lss, wIf_bool, true_and, wBin_add64]
      by_cases hq : q < p
      · have hq' : (q : Int) < (p : Int) := by omega
        obtain ⟨b, o, row, rfl, hb, hrow, hget⟩ := hS.open (i := p) (by rw [strs_length]; exact hp)
        have hvq : vs[q]? = some vs[q] := List.getElem?_eq_getElem (by omega)
        by_cases he : vs[p] = vs[q]
        · have he' : decide (vs[p] = vs[q]) = true := by simp [he]
          simp (disch := first | omega | assumption | exact shr_lt (by assumption) | exact ndiff32 (by assumption) | exact below_lt (by omega) | fail) only [wIf_bool, wLd_none, cellP_one, Option.elim_some, decide_true, if_true, true_and, wIdx_slice, Int.toNat_natCast, Nat.mul_one, hq', ldP_row hrow, hget _ _ (strs_get hvp), hget _ _ (strs_get hvq), wBin_streq, he']
          refine ⟨?_, by omega⟩
          unfold codeOf
          rw [if_neg hall, if_neg]
          intro hnd
          have := (List.nodup_iff_pairwise_ne.1 hnd)
          rw [List.pairwise_iff_getElem] at this
          exact this q p (by omega) hp hq he.symm
        · have he' : decide (vs[p] = vs[q]) = false := by simp [he]
          simp (disch := first | omega | assumption | exact shr_lt (by assumption) | exact ndiff32 (by assumption) | exact below_lt (by omega) | fail) only [wIf_bool, wLd_none, cellP_one, Option.elim_some, decide_true, if_true, if_false, Bool.false_eq_true, true_and, wIdx_slice, Int.toNat_natCast, Nat.mul_one, hq', ldP_row hrow, hget _ _ (strs_get hvp), hget _ _ (strs_get hvq), wBin_streq, he']
          exact hih3 (m3 - 1) _ _ _ (by omega) ⟨q + 1, by omega, by simp, fun j s hj hs => by
            by_cases hjq : j = q
            · subst hjq; rw [hvq] at hs; cases hs; exact fun h => he h.symm
            · exact hst3 j s (by omega) hs, rfl, by omega⟩
      · have hq' : ¬ (q : Int) < (p : Int) := by omega
        simp (disch := first | omega | assumption | exact shr_lt (by assumption) | exact ndiff32 (by assumption) | exact below_lt (by omega) | fail) only [decide_false, if_false, Bool.false_eq_true, hq']
        exact hih2 (m2 - 1) _ _ _ (by omega) ⟨p + 1, by omega, by simp, fun j q' s t h1 h2 hs ht => by
          by_cases hqp : q' = p
          · subst hqp; rw [hvp] at ht; cases ht; exact hst3 j s (by omega) hs
          · exact hst2 j q' s t h1 (by omega) hs ht, rfl, hn2⟩
    · have hp' : ¬ (p : Int) < (vs.length : Int) := by omega
      simp (disch := first | omega | assumption | exact shr_lt (by assumption) | exact ndiff32 (by assumption) | exact below_lt (by omega) | fail) only [decide_false, if_false, Bool.false_eq_true, hp']
      refine ⟨?_, hn1⟩
      unfold codeOf
      rw [if_neg hall, if_pos]
      rw [List.nodup_iff_pairwise_ne, List.pairwise_iff_getElem]
      intro j q hj hq hjq
      exact hst2 j q _ _ hjq (by omega) (List.getElem?_eq_getElem hj) (List.getElem?_eq_getElem hq)
end Go.Proofs.YthbdeaeghipliaaGreatDoor

set_option linter.unusedSimpArgs false
set_option linter.unusedVariables false
set_option linter.unusedSectionVars false
namespace Go.Proofs.YthbdeaeghipliaaGreatDoor
open Go.Clo

theorem boundA_nat {l n : Nat} (h : l ≤ n) : boundA (some (.int .i64 (l : Int))) n = some l := by
  show (cond (Nat.ble l n) (some l) none) = some l
  rw [bltrue h]; rfl
theorem looseA_some {c : List Value} {sl n : Nat} (hsl : sl = 0 ∨ sl = 1) : ∃ x, looseA (.cells c sl) 0 n 1 = some x := by
  rcases hsl with rfl | rfl
  · exact ⟨_, rfl⟩
  · exact ⟨_, rfl⟩
theorem wSl_lo {H : Heap} {b n l sl : Nat} {c : List Value} (hg : getH H b = some (.cells c sl)) (hl : l < n) (hsl : sl = 0 ∨ sl = 1) (k : VP) : wSl (.slice (some ⟨b, 0, none⟩) n n) 1 (some (.int .i64 (l : Int))) none none H k = k (.slice (some ⟨b, l, none⟩) (n - l) (n - l)) := by
  obtain ⟨x, hx⟩ := looseA_some (c := c) (n := n) hsl
  have e : sliceA (some ⟨b, 0, none⟩) n n 1 (some (.int .i64 (l : Int))) none none x = some (.slice (some ⟨b, l, none⟩) (n - l) (n - l)) := by
    simp only [sliceA, hiA, loA, boundA_nat (Nat.le_of_lt hl)]
    simp only [boundA, beqfalse (show n ≠ l by omega), bltrue (show l ≤ n by omega)]
    simp
  unfold wSl
  dsimp only
  rw [getB_eq, hg]
  simp only [Option.elim_some, slB]
  rw [hx]
  dsimp only
  rw [e]
  exact force1_eq _ _
theorem wSl_hi {H : Heap} {b n h sl : Nat} {c : List Value} (hg : getH H b = some (.cells c sl)) (hh : h ≤ n) (hsl : sl = 0 ∨ sl = 1) (k : VP) : wSl (.slice (some ⟨b, 0, none⟩) n n) 1 none (some (.int .i64 (h : Int))) none H k = k (.slice (some ⟨b, 0, none⟩) h n) := by
  obtain ⟨x, hx⟩ := looseA_some (c := c) (n := n) hsl
  have e : sliceA (some ⟨b, 0, none⟩) n n 1 none (some (.int .i64 (h : Int))) none x = some (.slice (some ⟨b, 0, none⟩) h n) := by
    simp only [sliceA, hiA, loA]
    simp only [boundA, beqtrue, bltrue (Nat.zero_le n), bltrue hh, cond_true]
    cases Nat.beq n 0 <;> simp
  unfold wSl
  dsimp only
  rw [getB_eq, hg]
  simp only [Option.elim_some, slB]
  rw [hx]
  dsimp only
  rw [e]
  exact force1_eq _ _
theorem repeatA_strs (z : ByteArray) : ∀ m, repeatA [.string z] m = strs (List.replicate m z)
  | 0 => rfl
  | m + 1 => by rw [repeatA, repeatA_strs z m]; rfl
theorem wClrS_strs {H : Heap} {b o m c : Nat} (z : ByteArray) (hm : 0 < m) (k : Heap → Prop) : wClrS (.slice (some ⟨b, o, none⟩) m c) [.string z] H k = stP (getH H b) o (strs (List.replicate m z)) fun blk => k (hs H b (some blk)) := by
  unfold wClrS
  dsimp only
  rw [beqfalse (show m ≠ 0 by omega), repeatA_strs, oneCells_strs]
  exact putCK_eq _ _ _ _ _
theorem wBin_strne (a b : ByteArray) (k : VP) : wBin .neq (.string a) (.string b) k = k (.bool (!decide (a = b))) := by
  rw [wBin_eq]
  have e : (a.toList == b.toList) = decide (a = b) := by
    rw [Bool.eq_iff_iff, beq_iff_eq, decide_eq_true_eq]
    exact ⟨fun h => bytes_eq h, fun h => by rw [h]⟩
  simp only [binV, strV, Option.elim_some, e]
theorem putL_strs {l : List ByteArray} {i : Nat} {x : ByteArray} (h : i < l.length) : putL (strs l) i [.string x] = strs (l.set i x) := by
  rw [putL_get (by rw [strs_length]; exact h)]; simp [strs, List.map_set]

/-- No two neighbors are equal. -/
def AdjNe (ys : List ByteArray) : Prop := ∀ (i : Nat) (s t : ByteArray), ys[i]? = some s → ys[i + 1]? = some t → s ≠ t

set_option maxHeartbeats 2000000 in
theorem compact32 (lo : Nat) (v : Value) (ys : List ByteArray) (H0 H : Heap) (nx : Nat) (hA : Acc lo H nx 1 v ys.length (strs ys)) (hE : Ext H0 lo H nx) (hl : ys.length ≤ 1000) : Ans Tryz.prog 67 [v] H nx fun r H' nx' => (∃ A n c, r = .slice A n c ∧ (n = ys.length ↔ AdjNe ys)) ∧ Ext H0 lo H' nx' := by
  refine spec67 ?_
  unfold F67
  rcases hA.2 with ⟨h0, rfl⟩ | ⟨b, hb1, hb2, rfl, hg⟩
  · have d : ((0 : Nat) : Int) < 2 := by omega
    simp (disch := first | omega | assumption | exact shr_lt (by assumption) | exact ndiff32 (by assumption) | exact below_lt (by omega) | fail) only [wBin_lss, wIf_bool, wLen_slice, forceV_eq, forceN_eq, decide_true, if_true, and_true, or_false, d]
    have : ys = [] := List.eq_nil_of_length_eq_zero h0
    subst this
    exact ⟨⟨none, 0, 0, rfl, fun _ i s t h => by simp at h, fun _ => rfl⟩, hE⟩
  by_cases h2 : ys.length < 2
  · have d : (ys.length : Int) < 2 := by omega
    simp (disch := first | omega | assumption | exact shr_lt (by assumption) | exact ndiff32 (by assumption) | exact below_lt (by omega) | fail) only [wBin_lss, wIf_bool, wLen_slice, forceV_eq, forceN_eq, decide_true, if_true, and_true, or_false, d]
    refine ⟨⟨_, _, _, rfl, fun _ i s t h1 h2' => ?_, fun _ => rfl⟩, hE⟩
    have := (List.getElem?_eq_some_iff.1 h2').1
    omega
  have d : ¬ (ys.length : Int) < 2 := by omega
  simp (disch := first | omega | assumption | exact shr_lt (by assumption) | exact ndiff32 (by assumption) | exact below_lt (by omega) | fail) only [wBin_lss, wIf_bool, wLen_slice, forceV_eq, forceN_eq, decide_false, if_false, Bool.false_eq_true, and_true, or_false, d]
  refine wLoop_rule (fun m L H' nx' => ∃ k : Nat, m + k = ys.length ∧ 1 ≤ k ∧ L = [.int .i64 (k : Int)] ∧ (∀ (i : Nat) (s t : ByteArray), i + 1 < k → ys[i]? = some s → ys[i + 1]? = some t → s ≠ t) ∧ H = H' ∧ nx ≤ nx') ?_ (m := ys.length - 1) ⟨1, by omega, Nat.le_refl _, rfl, fun i s t h => by omega, rfl, Nat.le_refl _⟩
  rintro m ih L _ n1 ⟨k, hm, hk1, rfl, hst, rfl, hn1⟩ hih
  simp (disch := first | omega | assumption | exact shr_lt (by assumption) | exact ndiff32 (by assumption) | exact below_lt (by omega) | fail) only [List.getD_cons_zero, wBin_lss, wIf_bool, wLd_none, Nat.zero_add, wBin_add64, wBin_sub64, wIdx_slice, Nat.mul_one]
  by_cases hk : k < ys.length
  · have hk' : (k : Int) < (ys.length : Int) := by omega
    have ek : ys[k]? = some ys[k] := List.getElem?_eq_getElem hk
    have ek1 : ys[k - 1]? = some ys[k - 1] := List.getElem?_eq_getElem (by omega)
    have e1 : (k : Int) - 1 = ((k - 1 : Nat) : Int) := by omega
    by_cases he : ys[k] = ys[k - 1]
    · have he' : decide (ys[k] = ys[k - 1]) = true := by simp [he]
      simp (disch := first | omega | assumption | exact shr_lt (by assumption) | exact ndiff32 (by assumption) | exact below_lt (by omega) | fail) only [wIf_bool, wLen_slice, wLd_none, ldP_cells, cellP_one, Option.elim_some, decide_true, if_true, Nat.zero_add, true_and, wIdx_slice, Int.toNat_natCast, Nat.mul_one, hk', e1, hg, strs_get ek, strs_get ek1, wBin_streq, he', wSl_lo hg hk (.inr rfl)]
      refine wLoop_rule (fun m L H' nx' => ∃ (p q : Nat) (zs : List ByteArray), m + q = ys.length - k ∧ 1 ≤ q ∧ q ≤ ys.length - k ∧ k ≤ p ∧ p + 1 ≤ k + q ∧ L = [.int .i64 (p : Int), .int .i64 (q : Int)] ∧ zs.length = ys.length ∧ getH H' b = some (.cells (strs zs) 1) ∧ Ext H0 lo H' nx') ?_ (m := ys.length - k - 1) ⟨k, 1, ys, by omega, Nat.le_refl _, by omega, Nat.le_refl _, by omega, rfl, rfl, hg, hE.more (by omega)⟩
      rintro m2 ih2 L H2 n2 ⟨p, q, zs, hm2, hq1, hq, hp1, hp, rfl, hz, hg2, hE2⟩ hih2
      simp (disch := first | omega | assumption | exact shr_lt (by assumption) | exact ndiff32 (by assumption) | exact below_lt (by omega) | fail) only [List.getD_cons_zero, List.getD_cons_succ, wBin_lss, wIf_bool, wLd_none, Nat.zero_add, wBin_add64, wBin_sub64, wIdx_slice, Int.toNat_natCast, Nat.mul_one]
      by_cases hq2 : q < ys.length - k
      · have hq' : (q : Int) < ((ys.length - k : Nat) : Int) := by omega
        have ez : zs[k + q]? = some (zs[k + q]'(by omega)) := List.getElem?_eq_getElem (by omega)
        have ez1 : zs[k + (q - 1)]? = some (zs[k + (q - 1)]'(by omega)) := List.getElem?_eq_getElem (by omega)
        have e2 : (q : Int) - 1 = ((q - 1 : Nat) : Int) := by omega
        have hp' : (p : Int) < (ys.length : Int) := by omega
        generalize (zs[k + q]'(by omega)) = z at ez
        generalize (zs[k + (q - 1)]'(by omega)) = z' at ez1
        by_cases hz2 : z = z'
        · have hz' : decide (z = z') = true := by simp [hz2]
          simp (disch := first | omega | assumption | exact shr_lt (by assumption) | exact ndiff32 (by assumption) | exact below_lt (by omega) | fail) only [List.getD_cons_zero, wIf_bool, wLd_none, ldP_cells, cellP_one, Option.elim_some, decide_true, if_true, if_false, Bool.false_eq_true, Nat.zero_add, true_and, Bool.not_true, wIdx_slice, Int.toNat_natCast, Nat.mul_one, wSt_string, stP_cells, List.length_cons, List.length_nil, wJoin_eq, hq', e2, hg2, strs_get ez, strs_get ez1, wBin_strne, hz']
          exact hih2 (m2 - 1) _ _ _ (by omega) ⟨p, q + 1, zs, by omega, by omega, by omega, hp1, by omega, by simp, hz, hg2, hE2.more (by omega)⟩
        · have hz' : decide (z = z') = false := by simp [hz2]
          simp (disch := first | omega | assumption | exact shr_lt (by assumption) | exact ndiff32 (by assumption) | exact below_lt (by omega) | fail) only [List.getD_cons_zero, wIf_bool, wLd_none, ldP_cells, cellP_one, Option.elim_some, decide_true, if_true, Nat.zero_add, true_and, Bool.not_false, wIdx_slice, Int.toNat_natCast, Nat.mul_one, wSt_string, stP_cells, List.length_cons, List.length_nil, wJoin_eq, hq', e2, hg2, strs_get ez, strs_get ez1, wBin_strne, hz', strs_length]
          refine ⟨by omega, ?_⟩
          exact hih2 (m2 - 1) _ _ _ (by omega) ⟨p + 1, q + 1, zs.set p z, by omega, by omega, by omega, by omega, by omega, by simp, by simp [hz], by rw [getH_same, putL_strs (by omega)], (hE2.hs hb1).more (by omega)⟩
      · have hq' : ¬ (q : Int) < ((ys.length - k : Nat) : Int) := by omega
        have hpn : p < ys.length := by omega
        simp (disch := first | omega | assumption | exact shr_lt (by assumption) | exact ndiff32 (by assumption) | exact below_lt (by omega) | fail) only [ldP_cells, cellP_one, decide_false, if_false, Bool.false_eq_true, stP_cells, hq', wSl_lo hg2 hpn (.inr rfl), wClrS_strs, hg2, strs_length, List.length_replicate]
        refine ⟨by omega, ?_⟩
        rw [wSl_hi (getH_same _ _ _) (Nat.le_of_lt hpn) (.inr rfl)]
        refine ⟨⟨_, _, _, rfl, fun h => absurd h (by omega), fun h => ?_⟩, hE2.hs hb1⟩
        have ek' : ys[k - 1 + 1]? = some ys[k] := by rw [show k - 1 + 1 = k by omega]; exact ek
        exact absurd he.symm (h (k - 1) _ _ ek1 ek')
    · have he' : decide (ys[k] = ys[k - 1]) = false := by simp [he]
      simp (disch := first | omega | assumption | exact shr_lt (by assumption) | exact ndiff32 (by assumption) | exact below_lt (by omega) | fail) only [wIf_bool, wLd_none, ldP_cells, cellP_one, Option.elim_some, decide_true, if_true, if_false, Bool.false_eq_true, Nat.zero_add, true_and, wIdx_slice, Int.toNat_natCast, Nat.mul_one, hk', e1, hg, strs_get ek, strs_get ek1, wBin_streq, he']
      exact hih (m - 1) _ _ _ (by omega) ⟨k + 1, by omega, by omega, by simp, fun i s t h1 hs ht => by
        by_cases hik : i + 1 = k
        · subst hik
          rw [ek] at ht; cases ht
          have : ys[i]? = some ys[i + 1 - 1] := ek1
          rw [this] at hs; cases hs
          exact fun h => he h.symm
        · exact hst i s t (by omega) hs ht, rfl, by omega⟩
  · have hk' : ¬ (k : Int) < (ys.length : Int) := by omega
    simp (disch := first | omega | assumption | exact shr_lt (by assumption) | exact ndiff32 (by assumption) | exact below_lt (by omega) | fail) only [decide_false, if_false, Bool.false_eq_true, hk']
    refine ⟨⟨_, _, _, rfl, fun _ i s t h1 h2' => ?_, fun _ => rfl⟩, hE.more hn1⟩
    have := (List.getElem?_eq_some_iff.1 h2').1
    exact hst i s t (by omega) h1 h2'

theorem values31 (v : Value) (A : Option Addr) (n cap : Nat) (H : Heap) (nx : Nat) : Ans Tryz.prog 66 [.slice A n cap] H nx fun r H' nx' => .func (.func 96) ⟨[]⟩ ⟨[.pointer (some ⟨nx, 0, none⟩)]⟩ = r ∧ hs H nx (some (.cells [.slice A n cap] 0)) = H' ∧ nx + 1 = nx' := by
  refine spec66 ?_
  unfold F66
  simp (disch := first | omega | assumption | exact shr_lt (by assumption) | exact ndiff32 (by assumption) | exact below_lt (by omega) | fail) only [wNew_eq, dBox_slice, forceV_eq, Yld.val, and_true, true_and]

/-! Sorted strings. -/
theorem sortS_perm (zs : List ByteArray) : (sortS zs).Perm zs := by
  have h : ((bytesOf zs).mergeSort fun x y => decide (x ≤ y)).Perm (bytesOf zs) := List.mergeSort_perm _ _
  have h2 := h.map fun l : List UInt8 => (⟨l.toArray⟩ : ByteArray)
  have e : (bytesOf zs).map (fun l : List UInt8 => (⟨l.toArray⟩ : ByteArray)) = zs := by
    simp [bytesOf, List.map_map, Function.comp_def]
  rw [e] at h2
  exact h2
theorem sortS_length (zs : List ByteArray) : (sortS zs).length = zs.length := (sortS_perm zs).length_eq
theorem sortS_sorted (zs : List ByteArray) : (sortS zs).Pairwise fun a b => a.data.toList ≤ b.data.toList := by
  have h : ((bytesOf zs).mergeSort fun x y => decide (x ≤ y)).Pairwise fun x y => decide (x ≤ y) = true :=
    List.pairwise_mergeSort (fun a b c h1 h2 => by simp only [decide_eq_true_eq] at *; exact List.le_trans h1 h2) (fun a b => by
      simp only [Bool.or_eq_true, decide_eq_true_eq]; exact List.le_total a b) _
  unfold sortS
  rw [List.pairwise_map]
  exact h.imp fun h => by simpa using h
theorem adj_nodup : ∀ (ys : List ByteArray), ys.Pairwise (fun a b => a.data.toList ≤ b.data.toList) → AdjNe ys → ys.Nodup
  | [], _, _ => List.nodup_nil
  | [x], _, _ => by simp
  | x :: y :: r, hp, ha => by
    have h1 := adj_nodup (y :: r) (List.pairwise_cons.1 hp).2 fun i s t hs ht => ha (i + 1) s t (by simpa using hs) (by simpa using ht)
    rw [List.nodup_cons]
    refine ⟨fun hx => ?_, h1⟩
    have hne : x ≠ y := ha 0 x y rfl rfl
    rcases List.mem_cons.1 hx with h | h
    · exact hne h
    · have a1 := (List.pairwise_cons.1 hp).1 y (by simp)
      have a2 := (List.pairwise_cons.1 (List.pairwise_cons.1 hp).2).1 x h
      exact hne (by
        have := List.le_antisymm a1 a2
        cases x; cases y; simpa using this)
theorem nodup_adj {ys : List ByteArray} (h : ys.Nodup) : AdjNe ys := fun i s t hs ht => by
  obtain ⟨h1, rfl⟩ := List.getElem?_eq_some_iff.1 hs
  obtain ⟨h2, rfl⟩ := List.getElem?_eq_some_iff.1 ht
  have := List.pairwise_iff_getElem.1 h
  exact this i (i + 1) h1 h2 (by omega)
theorem sort_nodup (zs : List ByteArray) : AdjNe (sortS zs) ↔ zs.Nodup :=
  ⟨fun h => (sortS_perm zs).nodup_iff.1 (adj_nodup _ (sortS_sorted zs) h), fun h => nodup_adj ((sortS_perm zs).nodup_iff.2 h)⟩

theorem checked14 (A : Option Addr) (vs : List ByteArray) (cap : Nat) (H : Heap) (nx : Nat) (hS : Sl H nx A (strs vs)) (hA0 : Has H nx A) (hcap : A = none → cap = 0) (hv : Short vs) (hl : vs.length ≤ 1000) : Ans Tryz.prog 34 [.slice A vs.length cap] H nx fun r H' nx' => .int .i64 (codeOf vs) = r ∧ Ext H nx H' nx' := by
  refine spec34 ?_
  unfold F34
  refine wCall_rule (any27 A vs cap H nx hS hv (by omega)) ?_
  rintro _ _ _ ⟨⟨c, rfl, hc⟩, rfl, rfl⟩
  cases c with
  | true =>
    simp (disch := first | omega | assumption | exact shr_lt (by assumption) | exact ndiff32 (by assumption) | exact below_lt (by omega) | fail) only [wIf_bool, wLen_slice, forceV_eq, if_true]
    refine ⟨?_, Ext.refl _ _⟩
    unfold codeOf
    rw [if_pos (hc.1 rfl)]
  | false =>
    have hall : ¬ ∃ s ∈ vs, validB s = false := fun h => by simpa using hc.2 h
    simp (disch := first | omega | assumption | exact shr_lt (by assumption) | exact ndiff32 (by assumption) | exact below_lt (by omega) | fail) only [wIf_bool, wLen_slice, forceV_eq, if_false, Bool.false_eq_true]
    refine wCall_rule (values31 undef A vs.length cap H nx) ?_
    rintro _ _ _ ⟨rfl, rfl, rfl⟩
    have hX : Ext H nx (hs H nx (some (.cells [.slice A vs.length cap] 0))) (nx + 1) := (Ext.refl H nx).new _ (Nat.le_refl _) (by omega)
    refine wCall_rule (sortedA nx A vs cap _ (nx + 1) (getH_same _ _ _) (by omega) (hS.ext hX) (hA0.ext hX) hcap hl) ?_
    rintro v H2 n2 ⟨hacc, hE2⟩
    rw [← sortS_length vs] at hacc
    refine wCall_rule (compact32 (nx + 1) v (sortS vs) _ H2 n2 hacc hE2 (by rw [sortS_length]; exact hl)) ?_
    rintro _ H3 n3 ⟨⟨A', n, c', rfl, hn⟩, hE3⟩
    rw [sort_nodup, sortS_length] at hn
    by_cases hnd : vs.Nodup
    · have := hn.2 hnd
      subst this
      have d : decide ((vs.length : Int) ≠ (vs.length : Int)) = false := by simp
      simp (disch := first | omega | assumption | exact shr_lt (by assumption) | exact ndiff32 (by assumption) | exact below_lt (by omega) | fail) only [wBin_neq, wIf_bool, wLen_slice, if_false, Bool.false_eq_true, d]
      refine ⟨?_, hX.trans hE3⟩
      unfold codeOf
      rw [if_neg hall, if_pos hnd]
    · have hne : n ≠ vs.length := fun h => hnd (hn.1 h)
      have d : decide ((n : Int) ≠ (vs.length : Int)) = true := by simp; omega
      simp (disch := first | omega | assumption | exact shr_lt (by assumption) | exact ndiff32 (by assumption) | exact below_lt (by omega) | fail) only [wBin_neq, wIf_bool, wLen_slice, if_true, d]
      refine ⟨?_, hX.trans hE3⟩
      unfold codeOf
      rw [if_neg hall, if_neg hnd]
end Go.Proofs.YthbdeaeghipliaaGreatDoor
