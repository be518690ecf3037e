/-
  The executor as a claim: closed runs as claims; the way in, from arguments that stand in the world.
  The executor as a claim: slices that may be empty, their rows; arrays in memory.
  The executor as a claim: contracts of the library, proved in the world itself, as claims on the abstract heap.
  Lemmas on claims that chapter 33 uses: append to a literal, the nil test, min, products.
  Marked code out of the program itself: where a sequence is a join and what a loop carries is given; the rest is computed.
  The walk's rules, in one.
  What the generated texts of this seat lean on.
-/
import Derived.Test.YtbmiedinclieaaaGreatDoorU3
import Derived.Carry
import Derived.ChangeArms
import Derived.DataReads
import Derived.Below
import Derived.Laws.AppendOwn
import Derived.KernelRfl
import Derived.Test.YtbmiedinclieaaaGreatDoorProg
set_option linter.all false
namespace Go.Clo

/-- A closed run is a claim. -/
theorem ans_of_run {P : Program} {n : Nat} {orc : Orc} (hm : P.follows .mixedOrders = true) (hNG : NamesOK P) (ho : OrcOK P orc) {f : FuncId} {args : List Value} {v : Value} (hr : runA P orc n f args = some v) (ha : args.all flat1 = true) (hv : flat v = true) (H : Heap) (nx : Nat) :
    Ans P f args H nx fun v' H' nx' => v = v' ∧ H = H' ∧ nx = nx' := by
  have hE : Enters P f := by
    unfold runA at hr
    rcases callN_sound (β := Option Value) hm hNG ho n f args .leaf 0 none (fun v _ _ => some v) with h | ⟨v', H', nx', h, hcs⟩
    · rw [h] at hr; cases hr
    · exact hcs.1
  refine ⟨v, H, nx, ⟨hE, fun F args' w hh hl => ?_⟩, rfl, rfl, rfl⟩
  have e := flatL_eq hl ha
  subst e
  refine (run_calls hm hNG ho hr ha hv w hh.gl.1).mono fun e w' ⟨he, hb⟩ => ⟨v, F, he, flat_refl F v hv, ?_⟩
  exact { le := Nat.le_refl _, ext := fun _ _ => rfl, os := hb.os, tape := hb.tape, output := hb.output, size := hb.size, frame := fun b h _ => hb.block b h, own := fun _ h => .inl h, keep := fun _ _ h => h, rom := fun i b h _ => ⟨hh.low h, h⟩, hr := ⟨fun i b hi hg => let ⟨t, h1, h2⟩ := hh.blk i b hi hg; ⟨t, h1, h2.mono (fun _ _ h => h) (hb.block _ h2.lt)⟩, hh.inj, hh.fresh, hh.top, hh.gl.step (fun b h _ => hb.block b h) (fun _ h => .inl h)⟩ }

/-- An abstract heap of arguments: all of it is only read. -/
structure In (w : World) (F : FM) (H : Heap) (nx : Nat) : Prop where
  hr : HR F H nx w
  rom : ∀ i b, getH H i = some b → b.isRom = true
theorem In.start (w : World) (hgw : GlW w) : In w (fun _ => none) .leaf 0 :=
  ⟨⟨fun i b hi => by omega, fun i j bi bj ti tj hi => by omega, fun _ _ => rfl, fun i _ => getH_leaf i, ⟨hgw, fun x hx ⟨i, _, _, hi, _⟩ => by omega⟩⟩, fun i b h => by rw [getH_leaf] at h; cases h⟩

theorem calls_of_ans {P : Program} {f : FuncId} {args args' : List Value} {H : Heap} {nx : Nat} {Q : Value → Heap → Nat → Prop} {w : World} {F : FM} (h : Ans P f args H nx Q) (hQ : ∀ v H' nx', Q v H' nx' → v = .bool true) (hi : In w F H nx) (hl : VL F args args') :
    Calls P f args'.toArray w fun e w' => e = .returned (.bool true) ∧ RowKit.Below w.heap.size w w' := by
  obtain ⟨v, H', nx', hcs, hq⟩ := h
  have := hQ _ _ _ hq
  subst this
  refine (hcs.2 F args' w hi.hr hl).mono fun e w' ⟨v', F', he, hvr, hst⟩ => ?_
  cases hvr
  refine ⟨he, hst.os, hst.tape, hst.output, hst.size, fun b hb => hst.frame b hb ?_⟩
  rintro ⟨i, k, t, _, hg, hk, _⟩
  rw [hi.rom i k hg] at hk; cases hk

def putF (F : FM) (i : Nat) (t : Tgt) : FM := fun j => if j = i then some t else F j
theorem putF_le {w : World} {F : FM} {H : Heap} {nx : Nat} (h : In w F H nx) (t : Tgt) : F.le (putF F nx t) := by
  intro i u hu
  have : i ≠ nx := by
    intro e; subst e
    rw [h.hr.fresh i (Nat.le_refl _)] at hu; cases hu
  simp [putF, this, hu]

/-- A name for an address. -/
theorem In.name {w : World} {F : FM} {H : Heap} {nx : Nat} (h : In w F H nx) (t : Tgt) : In w (putF F nx t) H (nx + 1) := by
  have hle := putF_le h t
  refine ⟨⟨fun i b hi hg => ?_, fun i j bi bj ti tj hi hj hgi hgj _ _ _ => .inr ⟨h.rom _ _ hgi, h.rom _ _ hgj⟩, fun i hi => ?_, fun i hi => h.hr.top i (by omega), ⟨h.hr.gl.1, fun x hx ⟨i, k, u, _, hg, hk, _⟩ => by rw [h.rom i k hg] at hk; cases hk⟩⟩, h.rom⟩
  · obtain ⟨u, h1, h2⟩ := h.hr.blk i b (h.hr.low hg) hg
    exact ⟨u, hle _ _ h1, h2.mono hle rfl⟩
  · have : i ≠ nx := by omega
    simp [putF, this]; exact h.hr.fresh i (by omega)
/-- A row that is only read. -/
theorem In.row {w : World} {F : FM} {H : Heap} {nx : Nat} (h : In w F H nx) {a : Nat} {off : Nat} {c' : Array Value} {e : TypeId} {m : Nat × Nat} {c : List Value} (hb : w.heap[a]? = some (.cells c' e m)) (hle : off + c.length ≤ c'.size)
    (hv : VL F c ((c'.toList.drop off).take c.length)) : In w (putF F nx ⟨a, off, c.length, 0, c'.size⟩) (hs H nx (some (.rom c))) (nx + 1) := by
  have h1 := h.name ⟨a, off, c.length, 0, c'.size⟩
  have hle2 := putF_le h ⟨a, off, c.length, 0, c'.size⟩
  have hrom : ∀ i b, getH (hs H nx (some (.rom c))) i = some b → b.isRom = true := by
    intro i b hg
    rw [getH_hs] at hg
    split at hg
    · cases hg; rfl
    · exact h.rom i b hg
  refine ⟨⟨fun i b hi hg => ?_, fun i j bi bj ti tj hi hj hgi hgj _ _ _ => .inr ⟨hrom _ _ hgi, hrom _ _ hgj⟩, h1.hr.fresh, fun i hi => ?_, ⟨h.hr.gl.1, fun x hx ⟨i, k, u, _, hg, hk, _⟩ => by rw [hrom i k hg] at hk; cases hk⟩⟩, hrom⟩
  · rw [getH_hs] at hg
    split at hg
    · rename_i hi2
      subst hi2
      cases hg
      refine ⟨_, by simp [putF]; rfl, ?_⟩
      exact ⟨c', e, m, hb, rfl, rfl, rfl, hle, VL.mono hle2 hv⟩
    · exact h1.hr.blk i b hi hg
  · rw [getH_hs, if_neg (by omega)]; exact h.hr.top i (by omega)

theorem exists_list {α : Type} {p : Nat → α → Prop} : ∀ {n : Nat}, (∀ i, i < n → ∃ a, p i a) → ∃ xs : List α, xs.length = n ∧ ∀ i a, xs[i]? = some a → p i a
  | 0, _ => ⟨[], rfl, fun i a h => by simp at h⟩
  | n + 1, h => by
    obtain ⟨xs, h1, h2⟩ := exists_list (n := n) (p := p) fun i hi => h i (by omega)
    obtain ⟨a, ha⟩ := h n (by omega)
    refine ⟨xs ++ [a], by simp [h1], fun i b hb => ?_⟩
    by_cases hi : i < n
    · rw [List.getElem?_append_left (by omega)] at hb; exact h2 i b hb
    · have : i = n := by
        have := (List.getElem?_eq_some_iff.mp hb).1
        simp at this; omega
      subst this
      rw [List.getElem?_append_right (by omega), h1, Nat.sub_self] at hb
      simp at hb; subst hb; exact ha
theorem flat_rows {α : Type} {f : α → List Value} {sz : Nat} (hf : ∀ a, (f a).length = sz) : ∀ (xs : List α) (l : List Value), (∀ i a, xs[i]? = some a → (l.drop (i * sz)).take sz = f a) → l.take (xs.length * sz) = xs.flatMap f
  | [], l, _ => by simp
  | a :: xs, l, h => by
    have h0 : l.take sz = f a := by simpa using h 0 a rfl
    have ih := flat_rows hf xs (l.drop sz) fun i b hb => by
      have := h (i + 1) b (by simpa using hb)
      rw [List.drop_drop]
      rw [Nat.add_mul, Nat.one_mul, Nat.add_comm] at this
      exact this
    rw [List.length_cons, Nat.add_mul, Nat.one_mul, Nat.add_comm, List.take_add, h0, ih]; rfl
theorem flat_length {α : Type} {f : α → List Value} {sz : Nat} (hf : ∀ a, (f a).length = sz) (xs : List α) : (xs.flatMap f).length = xs.length * sz := by
  induction xs with
  | nil => simp
  | cons a xs ih => simp [hf, ih, Nat.add_mul]; omega

section
variable {X : Type} {enc : TypeId × Value → X} {P : Program} {w : World} {base : Nat} {spare : Nat → Bool} {held : Bool}

theorem cells_at {a : Addr} {c' : Array Value} {e : TypeId} {m : Nat × Nat} (hb : w.heap[a.block]? = some (.cells c' e m)) (hs : a.spot = none) {k sz : Nat} {cs : List Value} (h : w.cells? base (a.add k) sz = some cs) :
    (c'.toList.drop (a.off + k)).take sz = cs := by
  obtain ⟨_, hl, hc⟩ := World.cells?_some h
  apply List.ext_getElem?
  intro i
  rw [List.getElem?_take]
  split
  · rename_i hi
    rw [← hc i hi, List.getElem?_drop]
    have hadd : ∀ (b : Addr) (n : Nat), b.spot = none → b.add n = ⟨b.block, b.off + n, none⟩ := by
      intro b n hn
      unfold Addr.add
      split
      · rename_i h0
        subst h0
        cases b; simp at hn; subst hn; rfl
      · rfl
    rw [hadd a k hs, hadd _ i rfl]
    simp [World.cell?, hb, Nat.add_assoc]
  · rw [List.getElem?_eq_none (by omega)]

/-- A slice whose elements' cells are plain. -/
theorem In.slice {α : Type} {f : α → List Value} {Pr : α → Prop} {sz : Nat} {F : FM} {H : Heap} {nx : Nat} (hi : In w F H nx) {t e : TypeId} {A : Option Addr} {len cap b0 fuel : Nat} {r : Reach} {x : DataW X × List MemPlace}
    (ht : P.underlying t = some (.slice e)) (hsz : P.cellsOf e = sz) (hf : ∀ a, (f a).length = sz) (hok : Cell.ok P w r b0 t (.slice A len cap)) (htr : DataW.trod enc P w base spare held fuel t [.slice A len cap] = some x)
    (helem : ∀ n cs y, DataW.trod enc P w base spare held n e cs = some y → ∃ a, f a = cs ∧ Pr a) (hflat : ∀ a, (f a).all flat1 = true) :
    ∃ (F' : FM) (H' : Heap) (nx' : Nat) (A' : Option Addr) (xs : List α), In w F' H' nx' ∧ F.le F' ∧ VR F' (.slice A' len cap) (.slice A len cap) ∧ xs.length = len ∧ (∀ a ∈ xs, Pr a) ∧ Sl H' nx' A' (xs.flatMap f) ∧ Ext H nx H' nx' ∧ len ≤ maxLen := by
  rcases DataW.trod_slice ht htr with ⟨h0, _⟩ | ⟨a, len', cap', elems, rest, n, _, h0, _, _, hl, hm, hlen, hel, _, _⟩
  · simp at h0
    obtain ⟨rfl, rfl, rfl⟩ := h0
    exact ⟨F, H, nx, none, [], hi, fun _ _ h => h, .sliceN _ _, rfl, by simp, fun i v h => by simp at h, Ext.refl _ _, Nat.zero_le _⟩
  · simp at h0
    obtain ⟨rfl, rfl, rfl⟩ := h0
    have hspot : a.spot = none := by
      simp only [Cell.ok, ht] at hok
      exact hok.2.2.2.1
    obtain ⟨c', ety, m, hb⟩ : ∃ c' ety m, w.heap[a.block]? = some (.cells c' ety m) := by
      simp only [Cell.ok, ht] at hok
      obtain ⟨_, _, _, _, row, cells, hsh, _⟩ := hok
      unfold World.shape? at hsh
      split at hsh
      · exact ⟨_, _, _, by assumption⟩
      · cases hsh
    obtain ⟨xs, hx1, hx2⟩ : ∃ xs : List α, xs.length = len ∧ ∀ i y, xs[i]? = some y → (c'.toList.drop (a.off + i * sz)).take sz = f y ∧ Pr y := by
      refine exists_list fun i hil => ?_
      have h1 := hel i hil
      rw [List.getElem?_eq_getElem (by omega)] at h1
      obtain ⟨cs, h2, h3⟩ := Option.bind_eq_some_iff.mp h1
      obtain ⟨y, rfl, hy⟩ := helem _ _ _ h3
      rw [hsz] at h2
      exact ⟨y, cells_at hb hspot h2, hy⟩
    have hPr : ∀ y ∈ xs, Pr y := fun y hy => by
      obtain ⟨i, hil, rfl⟩ := List.getElem_of_mem hy
      exact (hx2 i _ (List.getElem?_eq_getElem hil)).2
    have hrows : (c'.toList.drop a.off).take (len * sz) = xs.flatMap f := by
      rw [← hx1]
      exact flat_rows hf xs _ fun i y hy => by rw [List.drop_drop]; exact (hx2 i y hy).1
    have hlenF := flat_length hf xs
    by_cases hz : xs.flatMap f = []
    · refine ⟨putF F nx ⟨a.block, a.off, 0, 0, 0⟩, H, nx + 1, some ⟨nx, 0, none⟩, xs, hi.name _, putF_le hi _, ?_, hx1, hPr, fun i v h => by rw [hz] at h; simp at h, Ext.self (by omega), by omega⟩
      have := VR.slice (F := putF F nx ⟨a.block, a.off, 0, 0, 0⟩) (b := nx) (o := 0) (n := len) (c := cap) (c' := cap) (t := ⟨a.block, a.off, 0, 0, 0⟩) (by simp [putF]) (.inl rfl)
      have ha : a = ⟨a.block, a.off + 0, none⟩ := by cases a; simp at hspot; subst hspot; rfl
      rw [ha]; exact this
    · have hle : a.off + (xs.flatMap f).length ≤ c'.size := by
        have h1 := congrArg List.length hrows
        simp only [List.length_take, List.length_drop, Array.length_toList] at h1
        have h2 : 0 < (xs.flatMap f).length := List.length_pos_iff.mpr hz
        omega
      have hvl : VL F (xs.flatMap f) ((c'.toList.drop a.off).take (xs.flatMap f).length) := by
        rw [hlenF, hx1, hrows]
        refine flatL_refl F _ ?_
        rw [List.all_eq_true]
        intro v hv
        obtain ⟨y, _, hy⟩ := List.mem_flatMap.mp hv
        exact List.all_eq_true.mp (hflat y) v hy
      refine ⟨_, _, _, some ⟨nx, 0, none⟩, xs, hi.row hb hle hvl, putF_le hi _, ?_, hx1, hPr, fun i v h => ⟨nx, 0, xs.flatMap f, rfl, by omega, by rw [rowOf, getH_same]; rfl, by rw [Nat.zero_add]; exact h⟩, (Ext.refl H nx).new _ (Nat.le_refl _) (by omega), by omega⟩
      have := VR.slice (F := putF F nx ⟨a.block, a.off, (xs.flatMap f).length, 0, c'.size⟩) (b := nx) (o := 0) (n := len) (c := cap) (c' := cap) (t := ⟨a.block, a.off, (xs.flatMap f).length, 0, c'.size⟩) (by simp [putF]) (.inl rfl)
      have ha : a = ⟨a.block, a.off + 0, none⟩ := by cases a; simp at hspot; subst hspot; rfl
      rw [ha]; exact this

/-- Behind the call: what the arguments hold reads as it did. -/
theorem trodAll_below (hl : laidOutB P = true) {W W' : World} (hb : RowKit.Below W.heap.size W W') : ∀ (ts : List TypeId) (vs : List Value) (ds : List (DataW X)) (ps : List MemPlace), (∀ t ∈ ts, P.readableRec t = true ∧ t < P.types.size) →
    DataW.TrodAll enc P W 0 (fun _ => true) true ts vs ds ps → (∀ x ∈ ps, x.block < W.heap.size) → DataW.TrodAll enc P W' 0 (fun b => decide (b < W.heap.size)) true ts vs ds ps
  | [], [], [], ps, _, h, _ => h
  | t :: ts, v :: vs, d :: ds, ps, ht, ⟨p, q, h1, h2, e⟩, hlt => by
    subst e
    refine ⟨p, q, ?_, trodAll_below hl hb ts vs ds q (fun u hu => ht u (List.mem_cons_of_mem _ hu)) h2 fun x hx => hlt x (List.mem_append_right _ hx), rfl⟩
    obtain ⟨h3, h4⟩ := ht t List.mem_cons_self
    exact RowKit.Below.trod hl h3 h4 h1 hb fun x hx => hlt x (List.mem_append_left _ hx)

theorem post_of_below {f : Func} {s : ChangeSpec} {apart fresh handsOn : Bool} {W W' : World} {args : Array Value} {v : Value} {ds gs : List (DataW X)} {before pa pv : List MemPlace}
    (hW : DataW.Whole enc P f.params.toList s.vars apart W args.toList ds gs before) (hb : RowKit.Below W.heap.size W W')
    (hres : ∀ (b : Nat) (sp : Nat → Bool) (hd : Bool), DataW.TrodAll enc P W' b sp hd f.resultTypes.toList (v.resultList f.resultTypes.size) (s.fn X (ds ++ gs)).results [])
    (hargs : DataW.TrodAll enc P W' 0 (fun b => decide (b < W.heap.size)) true f.params.toList args.toList (s.fn X (ds ++ gs)).args pa)
    (hvars : DataW.TrodVars enc P W' (fun b => decide (b < W.heap.size)) s.vars (s.fn X (ds ++ gs)).vars pv) : s.post enc P f apart fresh handsOn false W args v W' :=
  ⟨ds, gs, before, [], pa, pv, hW, hres _ _ _, hargs, hvars, hb.frame _, fun h => by cases h⟩
end
end Go.Clo

namespace Go.Clo

theorem rowAt_off {p : Program} {fits : TypeId → Bool} {d : Nat} {e : TypeId} {count off n : Nat} (h : rowAt p fits d e count off n = true) : off ≤ count * p.cellsOf e := by
  cases d with
  | zero => simp [rowAt] at h
  | succ d =>
    unfold rowAt at h
    simp only at h
    split at h
    · cases h
    · rename_i hs
      have h1 := Nat.div_add_mod off (p.cellsOf e)
      have h3 : off % p.cellsOf e < p.cellsOf e := Nat.mod_lt _ (by omega)
      rw [Bool.or_eq_true] at h
      rcases h with h | h
      · simp only [Bool.and_eq_true, beq_iff_eq, decide_eq_true_eq] at h
        obtain ⟨⟨hr, hi⟩, _⟩ := h
        rw [hr, Nat.add_zero, Nat.mul_comm] at h1
        rw [← h1]
        exact Nat.mul_le_mul_right _ (by omega)
      · simp only [Bool.and_eq_true, decide_eq_true_eq] at h
        have h2 : (off / p.cellsOf e + 1) * p.cellsOf e ≤ count * p.cellsOf e := Nat.mul_le_mul_right _ (by omega)
        rw [Nat.add_mul, Nat.one_mul, Nat.mul_comm] at h2
        omega
theorem liesAt_off {p : Program} {e : TypeId} {count off : Nat} : ∀ {d : Nat} {u : TypeId} {n : Nat}, liesAt p d e count off u n = true → off ≤ count * p.cellsOf e
  | 0, _, _, h => by simp [liesAt] at h
  | d + 1, u, n, h => by
    unfold liesAt at h
    rw [Bool.or_eq_true] at h
    rcases h with h | h
    · exact rowAt_off h
    · split at h
      · exact liesAt_off h
      · cases h

/-- A slice's row is there, though it may have no elements. -/
def Has (H : Heap) (nx : Nat) (A : Option Addr) : Prop := A = none ∨ ∃ b o row, A = some ⟨b, o, none⟩ ∧ b < nx ∧ rowOf H b = some row
theorem Has.ext {H : Heap} {nx : Nat} {A : Option Addr} {H' : Heap} {nx' : Nat} (h : Has H nx A) (e : Ext H nx H' nx') : Has H' nx' A := by
  rcases h with h | ⟨b, o, row, h1, h2, h3⟩
  · exact .inl h
  · exact .inr ⟨b, o, row, h1, Nat.lt_of_lt_of_le h2 e.le, by rw [e.row h2]; exact h3⟩

section
variable {X : Type} {enc : TypeId × Value → X} {P : Program} {w : World} {base : Nat} {spare : Nat → Bool} {held : Bool}

/-- A slice whose elements' cells are plain; its row is there. -/
theorem In.sliceH {α : Type} {f : α → List Value} {Pr : α → Prop} {sz : Nat} {F : FM} {H : Heap} {nx : Nat} (hi : In w F H nx) {t e : TypeId} {A : Option Addr} {len cap b0 fuel : Nat} {r : Reach} {x : DataW X × List MemPlace}
    (ht : P.underlying t = some (.slice e)) (hsz : P.cellsOf e = sz) (hf : ∀ a, (f a).length = sz) (hok : Cell.ok P w r b0 t (.slice A len cap)) (htr : DataW.trod enc P w base spare held fuel t [.slice A len cap] = some x)
    (helem : ∀ n cs y, DataW.trod enc P w base spare held n e cs = some y → ∃ a, f a = cs ∧ Pr a) (hflat : ∀ a, (f a).all flat1 = true) :
    ∃ (F' : FM) (H' : Heap) (nx' : Nat) (A' : Option Addr) (xs : List α), In w F' H' nx' ∧ F.le F' ∧ VR F' (.slice A' len cap) (.slice A len cap) ∧ xs.length = len ∧ (∀ a ∈ xs, Pr a) ∧ Sl H' nx' A' (xs.flatMap f) ∧ Ext H nx H' nx' ∧ len ≤ maxLen ∧ Has H' nx' A' := by
  rcases DataW.trod_slice ht htr with ⟨h0, _⟩ | ⟨a, len', cap', elems, rest, n, _, h0, _, _, hl, hm, hlen, hel, _, _⟩
  · simp at h0
    obtain ⟨rfl, rfl, rfl⟩ := h0
    exact ⟨F, H, nx, none, [], hi, fun _ _ h => h, .sliceN _ _, rfl, by simp, fun i v h => by simp at h, Ext.refl _ _, Nat.zero_le _, .inl rfl⟩
  · simp at h0
    obtain ⟨rfl, rfl, rfl⟩ := h0
    have hspot : a.spot = none := by
      simp only [Cell.ok, ht] at hok
      exact hok.2.2.2.1
    obtain ⟨c', ety, m, hb, hoff⟩ : ∃ c' ety m, w.heap[a.block]? = some (.cells c' ety m) ∧ a.off ≤ c'.size := by
      simp only [Cell.ok, ht] at hok
      obtain ⟨_, _, _, _, row, cells, hsh, hlies⟩ := hok
      unfold World.shape? at hsh
      split at hsh
      · rename_i cc ee mm hcell
        cases hsh
        refine ⟨_, _, _, hcell, ?_⟩
        have h1 := liesAt_off hlies
        exact Nat.le_trans h1 (Nat.div_mul_le_self _ _)
      · cases hsh
    obtain ⟨xs, hx1, hx2⟩ : ∃ xs : List α, xs.length = len ∧ ∀ i y, xs[i]? = some y → (c'.toList.drop (a.off + i * sz)).take sz = f y ∧ Pr y := by
      refine exists_list fun i hil => ?_
      have h1 := hel i hil
      rw [List.getElem?_eq_getElem (by omega)] at h1
      obtain ⟨cs, h2, h3⟩ := Option.bind_eq_some_iff.mp h1
      obtain ⟨y, rfl, hy⟩ := helem _ _ _ h3
      rw [hsz] at h2
      exact ⟨y, cells_at hb hspot h2, hy⟩
    have hPr : ∀ y ∈ xs, Pr y := fun y hy => by
      obtain ⟨i, hil, rfl⟩ := List.getElem_of_mem hy
      exact (hx2 i _ (List.getElem?_eq_getElem hil)).2
    have hrows : (c'.toList.drop a.off).take (len * sz) = xs.flatMap f := by
      rw [← hx1]
      exact flat_rows hf xs _ fun i y hy => by rw [List.drop_drop]; exact (hx2 i y hy).1
    have hlenF := flat_length hf xs
    have hle : a.off + (xs.flatMap f).length ≤ c'.size := by
      have h1 := congrArg List.length hrows
      simp only [List.length_take, List.length_drop, Array.length_toList] at h1
      omega
    have hvl : VL F (xs.flatMap f) ((c'.toList.drop a.off).take (xs.flatMap f).length) := by
      rw [hlenF, hx1, hrows]
      refine flatL_refl F _ ?_
      rw [List.all_eq_true]
      intro v hv
      obtain ⟨y, _, hy⟩ := List.mem_flatMap.mp hv
      exact List.all_eq_true.mp (hflat y) v hy
    have hrow : rowOf (hs H nx (some (.rom (xs.flatMap f)))) nx = some (xs.flatMap f) := by rw [rowOf, getH_same]; rfl
    refine ⟨_, _, _, some ⟨nx, 0, none⟩, xs, hi.row hb hle hvl, putF_le hi _, ?_, hx1, hPr, fun i v h => ⟨nx, 0, xs.flatMap f, rfl, by omega, hrow, by rw [Nat.zero_add]; exact h⟩, (Ext.refl H nx).new _ (Nat.le_refl _) (by omega), by omega, .inr ⟨nx, 0, _, rfl, by omega, hrow⟩⟩
    have := VR.slice (F := putF F nx ⟨a.block, a.off, (xs.flatMap f).length, 0, c'.size⟩) (b := nx) (o := 0) (n := len) (c := cap) (c' := cap) (t := ⟨a.block, a.off, (xs.flatMap f).length, 0, c'.size⟩) (by simp [putF]) (.inl rfl)
    have ha : a = ⟨a.block, a.off + 0, none⟩ := by cases a; simp at hspot; subst hspot; rfl
    rw [ha]; exact this
end

/-- Nothing is appended. -/
theorem src_none {H : Heap} {nx size : Nat} {A : Option Addr} {cap : Nat} (h : Has H nx A) : Src H size (.slice A 0 cap) 0 [] := by
  refine ⟨rfl, fun k => ?_, by simp⟩
  rcases h with rfl | ⟨b, o, row, rfl, _, hrow⟩
  · rfl
  · unfold rowOf at hrow
    cases hg : getH H b with
    | none => rw [hg] at hrow; cases hrow
    | some blk =>
      rw [hg] at hrow
      show rowK H ⟨b, o, none⟩ (0 * size) False k = k []
      unfold rowK
      simp only
      rw [getB_eq, hg, Nat.zero_mul]
      cases blk with
      | cells c sl => rfl
      | map es c => simp [Blk.row] at hrow
      | iter _ _ _ => simp [Blk.row] at hrow
      | rom c => rfl
theorem src_any {H : Heap} {nx size : Nat} {A : Option Addr} {m cap : Nat} {l : List Value} (h : Sl H nx A l) (h0 : Has H nx A) (hl : l.length = m * size) (hsz : 0 < size) : Src H size (.slice A m cap) m l := by
  cases m with
  | zero =>
    have : l = [] := by simpa using hl
    subst this
    exact src_none h0
  | succ m => exact src_sl h hl (Nat.mul_pos (by omega) hsz)
theorem wApp_zero {H : Heap} {nx size bytes : Nat} {x : Value} (hx : Src H size x 0 []) (hb : bytes ≤ 1000) (k : EP) : wApp (.slice none 0 0) x size bytes H nx k = k (.slice none 0 0) H nx := by
  unfold wApp appK
  rw [hx.len]
  dsimp only
  have h1 : (2 * (0 + 0) + 1000) * bytes ≤ 281474976710656 := by omega
  rw [forceN_eq, bltrue h1, bltrue (show 0 + 0 ≤ 1000000000 by omega)]
  simp only [Bool.and_self, cond_true]
  rw [hx.first]
  rfl
theorem wCopy_row {H : Heap} {nx b n cap size m sl : Nat} {row l : List Value} {x : Value} (hg : getH H b = some (.cells row sl)) (hx : Src H size x m l) (hm : m ≤ n) (ho : oneCells l = true) (hl : l.length ≤ row.length) (k : EP) :
    wCopy (.slice (some ⟨b, 0, none⟩) n cap) x size H nx k = k (.int .i64 (m : Int)) (hs H b (some (.cells (putL row 0 l) sl))) nx := by
  unfold wCopy
  rw [hx.len]
  dsimp only
  have e : Nat.min m n = m := Nat.min_eq_left hm
  rw [forceN_eq, e, hx.first, ho]
  simp only [cond_true]
  rw [putCK_eq, hg]
  simp only [stP, Nat.zero_add, hl, true_and]
  rfl

/-! Arrays of numbers in memory. -/
theorem putL_get {c : List Value} {o : Nat} {x : Value} (h : o < c.length) : putL c o [x] = c.set o x := by
  unfold putL
  rw [List.set_eq_take_append_cons_drop, if_pos h]
  simp
theorem set_u32s {l : List Nat} {i x : Nat} : (u32s l).set i (.int .u32 (x : Int)) = u32s (l.set i x) := by simp [u32s, List.map_set]
theorem set_i64s {l : List Int} {i : Nat} {x : Int} : (i64s l).set i (.int .i64 x) = i64s (l.set i x) := by simp [i64s, List.map_set]
theorem putL_u32s {l : List Nat} {i x : Nat} (h : i < l.length) : putL (u32s l) i [.int .u32 (x : Int)] = u32s (l.set i x) := by rw [putL_get (by rw [u32s_length]; exact h), set_u32s]
theorem putL_i64s {l : List Int} {i : Nat} {x : Int} (h : i < l.length) : putL (i64s l) i [.int .i64 x] = i64s (l.set i x) := by rw [putL_get (by rw [i64s_length]; exact h), set_i64s]
end Go.Clo

namespace Go.Clo

/-- Nothing that has a name has turned. -/
theorem Stp.below {F : FM} {H : Heap} {nx : Nat} {w w' : World} (hh : HR F H nx w) (hb : RowKit.Below w.heap.size w w') : Stp F H nx w F H nx w' :=
  { le := Nat.le_refl _, ext := fun _ _ => rfl, os := hb.os, tape := hb.tape, output := hb.output, size := hb.size, frame := fun b h _ => hb.block b h, own := fun _ h => .inl h, keep := fun _ _ h => h, rom := fun i b h _ => ⟨hh.low h, h⟩, hr := ⟨fun i b hi hg => let ⟨t, h1, h2⟩ := hh.blk i b hi hg; ⟨t, h1, h2.mono (fun _ _ h => h) (hb.block _ h2.lt)⟩, hh.inj, hh.fresh, hh.top, hh.gl.step (fun b h _ => hb.block b h) (fun _ h => .inl h)⟩ }
theorem below_refl (w : World) : RowKit.Below w.heap.size w w := ⟨rfl, rfl, rfl, Nat.le_refl _, fun _ _ => rfl⟩

/-- A function of values alone. -/
theorem ans_flat {P : Program} {f : FuncId} {args : List Value} {v : Value} (hE : Enters P f) (ha : args.all flat1 = true) (hv : flat v = true) (h : ∀ w, Calls P f args.toArray w fun e w' => e = .returned v ∧ w' = w) (H : Heap) (nx : Nat) :
    Ans P f args H nx fun r H' nx' => v = r ∧ H = H' ∧ nx = nx' := by
  refine ⟨v, H, nx, ⟨hE, fun F args' w hh hl => ?_⟩, rfl, rfl, rfl⟩
  have e := flatL_eq hl ha
  subst e
  refine (h w).mono fun e w' ⟨he, hw⟩ => ?_
  subst hw
  exact ⟨v, F, he, flat_refl F v hv, Stp.refl hh⟩

/-- The cells of a slice, in the world. -/
theorem cell_of_sl {F : FM} {H : Heap} {nx : Nat} {w : World} (hh : HR F H nx w) {b o : Nat} {t : Tgt} {xs : List Value} (hF : F b = some t) (hS : Sl H nx (some ⟨b, o, none⟩) xs) {i : Nat} {v : Value} (hi : xs[i]? = some v) :
    ∃ v', w.cell? ⟨t.blk, t.base + o + i, none⟩ = some v' ∧ VR F v v' := by
  obtain ⟨b', o', row, e, hb, hrow, hv⟩ := hS i v hi
  cases e
  unfold rowOf at hrow
  cases hg : getH H b with
  | none => rw [hg] at hrow; cases hrow
  | some blk =>
    rw [hg] at hrow
    have hbr := hh.hb.get hF hg
    have main : ∀ (c : List Value) (c' : Array Value), row = c → VL F c ((c'.toList.drop t.base).take c.length) → ∃ v', c'[t.base + o + i]? = some v' ∧ VR F v v' := by
      intro c c' e hvl
      subst e
      obtain ⟨v', h1, h2⟩ := hvl.some hv
      refine ⟨v', ?_, h2⟩
      rw [List.getElem?_take] at h1
      split at h1
      · rw [List.getElem?_drop, Array.getElem?_toList] at h1
        rw [← h1]; congr 1; omega
      · cases h1
    cases blk with
    | map es q => cases hrow
    | iter _ _ _ => cases hrow
    | cells c sl =>
      obtain ⟨c', e, _, hw, _, _, _, _, hvl⟩ := hbr
      simp only [Option.bind_some, Blk.row, Option.some.injEq] at hrow
      obtain ⟨v', h1, h2⟩ := main c c' hrow.symm hvl
      exact ⟨v', by simp [World.cell?, hw, h1], h2⟩
    | rom c =>
      obtain ⟨c', e, m, hw, _, _, _, _, hvl⟩ := hbr
      simp only [Option.bind_some, Blk.row, Option.some.injEq] at hrow
      obtain ⟨v', h1, h2⟩ := main c c' hrow.symm hvl
      exact ⟨v', by simp [World.cell?, hw, h1], h2⟩
theorem blk_of_sl {F : FM} {H : Heap} {nx : Nat} {w : World} (hh : HR F H nx w) {b o : Nat} {t : Tgt} {xs : List Value} (hF : F b = some t) (hS : Sl H nx (some ⟨b, o, none⟩) xs) (h0 : 0 < xs.length) : t.blk < w.heap.size := by
  obtain ⟨v', h1, _⟩ := cell_of_sl hh hF hS (List.getElem?_eq_getElem h0)
  unfold World.cell? at h1
  rcases Nat.lt_or_ge t.blk w.heap.size with g | g
  · exact g
  · rw [Array.getElem?_eq_none g] at h1; cases h1

/-- A new row that the call has made, one cell an element. -/
theorem Stp.row {F : FM} {H : Heap} {nx : Nat} {w w' : World} (hh : HR F H nx w) (hb : RowKit.Below w.heap.size w w') {g cap : Nat} {cur : Array Value} {e : TypeId} {xs : List Value} (hg : w.heap.size ≤ g) (hc : w'.heap[g]? = some (.cells cur e (0, 0)))
    (h1 : xs.length ≤ cap) (h2 : cur.size = cap) (h3 : cur.toList.take xs.length = xs) (hbd : cap ≤ 9223372036854775807) (hfl : xs.all flat1 = true) :
    ∃ F', VR F' (.slice (some ⟨nx, 0, none⟩) xs.length xs.length) (.slice (some ⟨g, 0, none⟩) xs.length cap) ∧ Stp F H nx w F' (hs H nx (some (.cells xs 1))) (nx + 1) w' := by
  refine ⟨upd F nx ⟨g, 0, xs.length, 1, cap⟩, ?_, Stp.name hh rfl hb.os hb.tape hb.output hb.size (fun k hk => hb.block k hk) ?_ hg⟩
  · have := VR.slice (F := upd F nx ⟨g, 0, xs.length, 1, cap⟩) (b := nx) (o := 0) (n := xs.length) (c := xs.length) (c' := cap) (t := ⟨g, 0, xs.length, 1, cap⟩) (upd_same _ _ _) (.inr ⟨Nat.one_pos, h1, by simp, by simp, hbd⟩)
    exact this
  · refine ⟨cur, e, _, hc, ⟨h2, TyOK.low _ (by omega), FzOK.none _⟩, rfl, rfl, by simpa using h1, ?_⟩
    simp only [List.drop_zero]
    rw [h3]
    exact flatL_refl _ _ hfl
theorem Acc.of_new (H : Heap) (nx : Nat) (xs : List Value) : Acc nx (Go.Clo.hs H nx (some (.cells xs 1))) (nx + 1) 1 (.slice (some ⟨nx, 0, none⟩) xs.length xs.length) xs.length xs :=
  ⟨by simp, .inr ⟨nx, Nat.le_refl _, by omega, rfl, getH_same _ _ _⟩⟩

/-- A slice whose row is there, or of no capacity (it may point anywhere). -/
def HasW (H : Heap) (nx : Nat) (A : Option Addr) (n cap : Nat) : Prop := (Has H nx A ∧ (A = none → cap = 0)) ∨ ∃ s, A = some ⟨0, 0, some s⟩ ∧ n = 0 ∧ cap = 0
theorem HasW.ext {H : Heap} {nx : Nat} {A : Option Addr} {n cap : Nat} {H' : Heap} {nx' : Nat} (h : HasW H nx A n cap) (e : Ext H nx H' nx') : HasW H' nx' A n cap := h.imp (fun h => ⟨h.1.ext e, h.2⟩) id
/-! Strings in memory. -/
def strs (zs : List ByteArray) : List Value := zs.map Value.string
theorem strs_get {zs : List ByteArray} {i : Nat} {z : ByteArray} (h : zs[i]? = some z) : (strs zs)[i]? = some (.string z) := by simp [strs, h]
theorem strs_length (zs : List ByteArray) : (strs zs).length = zs.length := by simp [strs]
theorem strs_flat (zs : List ByteArray) : (strs zs).all flat1 = true := by simp [strs, flat1]
theorem oneCells_strs : ∀ zs : List ByteArray, oneCells (strs zs) = true
  | [] => rfl
  | z :: zs => oneCells_strs zs
end Go.Clo

namespace Go.Clo

theorem dBsl_none (z : List Value) (k : List Value → Prop) : dBsl 0 1 z [] k = k [] := by
  rw [dBsl_eq]
  show (if oneCells [] = true then k [] else False) = _
  exact if_pos (show oneCells [] = true from rfl)
theorem firstK_lit {H : Heap} {size n b cap sl : Nat} {c : List Value} (hsz : 0 < size) (hg : getH H b = some (.cells c sl)) (hl : c.length = n * size) (k : List Value → Prop) : firstK H size n (.slice (some ⟨b, 0, none⟩) n cap) False k = k c := by
  rcases Nat.eq_zero_or_pos n with h0 | h0
  · subst h0
    simp at hl; subst hl
    unfold firstK rowK
    dsimp only
    rw [getB_eq, hg]
    simp only [Option.elim_some, Nat.zero_mul, takeN]
    exact spine_eq _ _
  · exact (src_new hg hl (Nat.mul_pos h0 hsz)).first k
theorem wApp_lit {H : Heap} {nx size bytes b n : Nat} {c : List Value} {x : Value} {m : Nat} {l : List Value} {k : EP} (hsz : 0 < size) (hg : getH H b = some (.cells c 0)) (hl : c.length = n * size) (hx : Src H size x m l) (hm : 0 < m) (ho : oneCells l = true)
    (hb1 : (2 * (n + m) + 1000) * bytes ≤ 281474976710656) (hb2 : n + m ≤ 1000000000) : wApp (.slice (some ⟨b, 0, none⟩) n n) x size bytes H nx k = k (.slice (some ⟨nx, 0, none⟩) (n + m) (n + m)) (hs H nx (some (.cells (c ++ l) size))) (nx + 1) := by
  have hlen : (c ++ l).length = (n + m) * size := by rw [List.length_append, hl, hx.size, Nat.add_mul]
  unfold wApp appK
  rw [hx.len]
  dsimp only
  rw [forceN_eq, bltrue hb1, bltrue hb2]
  simp only [Bool.and_self, cond_true]
  rw [hx.first, ho, blfalse (show n < n + m by omega)]
  simp only [cond_true, cond_false]
  rw [firstK_lit hsz hg hl, spine_eq, hlen, beqtrue]
  simp only [cond_true, appOut]
  rw [getB_eq, hg]
  simp only [Option.elim_some]
  have hls : looseO (.cells c 0) 0 n size = some false := rfl
  rw [hls]
  dsimp only
  simp only [appNew]
  rw [forceN_eq, forceN_eq, hsK_eq]
theorem wApp_lit0 {H : Heap} {nx size bytes b n : Nat} {c : List Value} {x : Value} {k : EP} (hg : getH H b = some (.cells c 0)) (hl : c.length = n * size) (hx : Src H size x 0 [])
    (hb1 : (2 * n + 1000) * bytes ≤ 281474976710656) (hb2 : n ≤ 1000000000) : wApp (.slice (some ⟨b, 0, none⟩) n n) x size bytes H nx k = k (.slice (some ⟨b, 0, none⟩) n n) (hs H b (some (.cells c 0))) nx := by
  unfold wApp appK
  rw [hx.len]
  dsimp only
  rw [forceN_eq, bltrue (show (2 * (n + 0) + 1000) * bytes ≤ 281474976710656 from hb1), bltrue (show n + 0 ≤ 1000000000 from hb2)]
  simp only [Bool.and_self, cond_true]
  rw [hx.first]
  simp only [oneCells, cond_true, Nat.add_zero, bltrue (Nat.le_refl n), appIn, forceN_eq]
  rw [putCK_eq, hg]
  simp only [stP_cells, List.length_nil, Nat.add_zero, Nat.zero_add, putL, List.append_nil, List.take_append_drop, hl, Nat.le_refl, true_and]


theorem wVf_isnil (t : TypeId) (A : Option Addr) (n c : Nat) (k : VP) : wVf (.eqn false (.slice t)) [.slice A n c, .slice none 0 0] k = k (.bool A.isNone) := by
  have e : VF.ev (.eqn false (.slice t)) [.slice A n c, .slice none 0 0] = some (.bool A.isNone) := by cases A <;> rfl
  unfold wVf
  rw [e, optK_eq]; rfl
theorem wVf_minN (a b : Nat) (k : VP) : wVf (.mm false) [.int .i64 (a : Int), .int .i64 (b : Int)] k = k (.int .i64 ((min a b : Nat) : Int)) := by
  have e : VF.ev (.mm false) [.int .i64 (a : Int), .int .i64 (b : Int)] = some (.int .i64 ((min a b : Nat) : Int)) := by
    show some (Value.int .i64 (if (b : Int) < (a : Int) then (b : Int) else (a : Int))) = _
    congr 2
    split <;> omega
  unfold wVf
  rw [e, optK_eq]; rfl
theorem wBin_mul64 {a b : Int} (k : VP) (h1 : -9223372036854775808 ≤ a * b) (h2 : a * b < 9223372036854775808) : wBin .mul (.int .i64 a) (.int .i64 b) k = k (.int .i64 (a * b)) := by rw [wBin_mul, i64_id h1 h2]
theorem repeatA_int (z : Int) : ∀ m, repeatA [.int .i64 z] m = i64s (List.replicate m z)
  | 0 => rfl
  | m + 1 => by rw [repeatA, repeatA_int z m]; rfl
theorem dMsl_ints {n : Nat} (h : n ≤ 1000000) (z : Int) (k : List Value → Nat → Nat → Prop) : dMsl (.int .i64 (n : Int)) (.int .i64 (n : Int)) [.int .i64 z] k = k (i64s (List.replicate n z)) n n := by
  show (cond (Nat.ble n n && Nat.ble n 1000000) (Go.Clo.spine (repeatA [.int .i64 z] n) fun cs => k cs n n) False) = _
  rw [bltrue (Nat.le_refl n), bltrue h, repeatA_int]
  exact spine_eq _ _
theorem oneCells_i64s : ∀ l : List Int, oneCells (i64s l) = true
  | [] => rfl
  | x :: l => oneCells_i64s l
theorem sl_new {H : Heap} {nx b sl : Nat} {c : List Value} (hb : b < nx) (hg : getH H b = some (.cells c sl)) : Sl H nx (some ⟨b, 0, none⟩) c := fun i u hu => ⟨b, 0, c, rfl, hb, by simp [rowOf, hg, Blk.row], by simpa using hu⟩
/-- A slice that a function has made, beginning with an empty one of its own. -/
def AccL (lo : Nat) (H : Heap) (nx : Nat) (v : Value) (c : List Value) : Prop :=
  Acc lo H nx 1 v c.length c ∨ (c = [] ∧ ∃ b, lo ≤ b ∧ b < nx ∧ v = .slice (some ⟨b, 0, none⟩) 0 0 ∧ getH H b = some (.cells [] 0))
theorem AccL.ext {lo : Nat} {H : Heap} {nx : Nat} {v : Value} {c : List Value} {H' : Heap} {nx' : Nat} (h : AccL lo H nx v c) (e : Ext H nx H' nx') : AccL lo H' nx' v c := by
  rcases h with h | ⟨h0, b, h1, h2, h3, h4⟩
  · exact .inl (h.ext e)
  · exact .inr ⟨h0, b, h1, Nat.lt_of_lt_of_le h2 e.le, h3, by rw [e.get b h2]; exact h4⟩
theorem AccL.sl {lo : Nat} {H : Heap} {nx : Nat} {v : Value} {c : List Value} (h : AccL lo H nx v c) : ∃ A, v = .slice A c.length c.length ∧ Sl H nx A c ∧ Has H nx A := by
  rcases h with h | ⟨rfl, b, h1, h2, rfl, h4⟩
  · obtain ⟨A, rfl, hS⟩ := h.sl
    refine ⟨A, rfl, hS, ?_⟩
    rcases h.2 with ⟨_, e⟩ | ⟨b, _, h2, e, h4⟩
    · injection e with e1
      exact .inl e1
    · injection e with e1
      subst e1
      exact .inr ⟨b, 0, c, rfl, h2, by simp [rowOf, h4, Blk.row]⟩
  · exact ⟨_, rfl, Sl.nil _ _ _, .inr ⟨b, 0, [], rfl, h2, by simp [rowOf, h4, Blk.row]⟩⟩
theorem wApp_accL {lo : Nat} {H : Heap} {nx bytes : Nat} {v : Value} {c : List Value} {x y : Value} {H0 : Heap} {k : EP} (hA : AccL lo H nx v c) (hx : Src H 1 x 1 [y]) (ho : oneCells [y] = true) (hb : bytes ≤ 16) (hlen : c.length ≤ 1000000) (hE : Ext H0 lo H nx) (hlo : lo ≤ nx)
    (hk : ∀ v' H', AccL lo H' (nx + 1) v' (c ++ [y]) → Ext H0 lo H' (nx + 1) → (∀ i, i < lo → getH H' i = getH H i) → k v' H' (nx + 1)) : wApp v x 1 bytes H nx k := by
  have hb1 : (2 * (c.length + 1) + 1000) * bytes ≤ 281474976710656 := by
    have := Nat.mul_le_mul (show 2 * (c.length + 1) + 1000 ≤ 2 * 1000001 + 1000 by omega) hb
    omega
  rcases hA with hA | ⟨rfl, b, h1, h2, rfl, h4⟩
  · have hblk : ∀ A n' c', v = .slice (some A) n' c' → lo ≤ A.block := fun A n' c' e => by
      rcases hA.2 with ⟨_, e'⟩ | ⟨b, h1, _, e', _⟩
      · rw [e'] at e; cases e
      · rw [e'] at e; cases e; exact h1
    refine wApp_acc (by omega) hA hx (by omega) ho hb1 (by omega) hE hlo fun v' H' h1 h2 h3 => hk v' H' (.inl ?_) h2 fun i hi => h3 i (by omega) fun A n' c' e => by have := hblk A n' c' e; omega
    rw [List.length_append]; exact h1
  · rw [wApp_lit (n := 0) (by omega) h4 (by simp) hx (by omega) ho (by simpa using hb1) (by omega)]
    exact hk _ _ (.inl ⟨rfl, .inr ⟨nx, hlo, by omega, rfl, getH_same _ _ _⟩⟩) (hE.new _ hlo (by omega)) fun i hi => getH_ne _ (by omega)


theorem wCallV_rule {P : Program} {g : FuncId} {first cap args : List Value} {H : Heap} {nx : Nat} {k : EP} {Q : EP} (h : Ans P g (first ++ args ++ cap) H nx Q) (hk : ∀ v H' nx', Q v H' nx' → k v H' nx') :
    wCallV P (.func (.func g) ⟨first⟩ ⟨cap⟩) args H nx k := by
  show spine (first ++ args ++ cap) (fun vs => callP P g vs H nx False k)
  rw [spine_eq]
  exact .inr (h.mono hk)

theorem wApp_litL {lo : Nat} {H : Heap} {nx b bytes m : Nat} {x : Value} {l : List Value} {H0 : Heap} {k : EP} (hg : getH H b = some (.cells [] 0)) (hlo : lo ≤ b) (hb : b < nx) (hx : Src H 1 x m l) (ho : oneCells l = true) (hm : m ≤ 1000000) (hby : bytes ≤ 16) (hE : Ext H0 lo H nx)
    (hk : ∀ v' H' nx', nx ≤ nx' → AccL lo H' nx' v' l → Ext H0 lo H' nx' → k v' H' nx') : wApp (.slice (some ⟨b, 0, none⟩) 0 0) x 1 bytes H nx k := by
  have hb1 : (2 * (0 + m) + 1000) * bytes ≤ 281474976710656 := by
    have := Nat.mul_le_mul (show 2 * (0 + m) + 1000 ≤ 2 * 1000000 + 1000 by omega) hby
    omega
  have hl := hx.size
  rcases Nat.eq_zero_or_pos m with h0 | h0
  · subst h0
    have : l = [] := List.length_eq_zero_iff.1 (by omega)
    subst this
    rw [wApp_lit0 (n := 0) hg (by rfl) hx (by omega) (by omega)]
    exact hk _ _ _ (Nat.le_refl _) (.inr ⟨rfl, b, hlo, hb, rfl, getH_same _ _ _⟩) (hE.hs hlo)
  · rw [wApp_lit (n := 0) (by omega) hg (by simp) hx h0 ho hb1 (by omega)]
    refine hk _ _ _ (by omega) (.inl ⟨by omega, .inr ⟨nx, by omega, by omega, ?_, ?_⟩⟩) (hE.new _ (by omega) (by omega))
    · rw [Nat.zero_add, hl, Nat.mul_one]
    · rw [getH_same]; rfl
end Go.Clo

namespace Go.Clo
def sameG : Option (Nat × Bool) → Option (Nat × Bool) → Bool
  | none, none => true
  | some (a, x), some (b, y) => Nat.beq a b && (cond x y (!y))
  | _, _ => false
def ownG : Option (Nat × Bool) → Option Nat → Bool
  | some (a, _), some b => Nat.beq a b
  | _, _ => false
def grpA (g : Option (Nat × Bool)) (cur : List S) : List S → List G
  | [] => [(g, cur.reverse)]
  | s :: l => cond (sameG g s.guard && !(ownG g s.dst)) (grpA g (⟨none, s.dst, s.i⟩ :: cur) l) ((g, cur.reverse) :: grpA s.guard [⟨none, s.dst, s.i⟩] l)
def grp : List S → List G
  | [] => []
  | s :: l => grpA s.guard [⟨none, s.dst, s.i⟩] l
def memN (x : Nat) : List Nat → Bool
  | [] => false
  | y :: l => Nat.beq x y || memN x l
def dsOf (ws : List Nat) : List Nat → List Nat → List Nat
  | acc, [] => acc
  | acc, x :: l => cond (memN x ws || memN x acc) (dsOf ws acc l) (dsOf ws (x :: acc) l)
/-- Code with its marks: the joins (by their place), what the loops carry, the paths of the guarded regions. -/
def markK {β : Type} : C → Nat → List (Nat × List Nat) → List (List Nat) → List HT → (D → Nat → List (Nat × List Nat) → List (List Nat) → List HT → β) → β
  | .skip, n, js, ls, hs, k => k .skip n js ls hs
  | .ops l, n, js, ls, hs, k => match grp l with
    | [] => k (.ops [] .nil) n js ls hs
    | [(none, m)] => k (.ops [(none, m)] (.one .nil)) n js ls hs
    | gs => match hs with
      | h :: hs => k (.ops gs h) n js ls hs
      | [] => k (.ops gs .nil) n js ls hs
  | .draw ms l, n, js, ls, hs, k => match grp l with
    | [] => k (.draw ms [] .nil) n js ls hs
    | [(none, m)] => k (.draw ms [(none, m)] (.one .nil)) n js ls hs
    | gs => match hs with
      | h :: hs => k (.draw ms gs h) n js ls hs
      | [] => k (.draw ms gs .nil) n js ls hs
  | .seq a b, n, js, ls, hs, k => match js with
    | [] => markK a (n + 1) [] ls hs fun a n js ls hs => markK b n js ls hs fun b n js ls hs => k (.seq a b) n js ls hs
    | (i, ws) :: r => cond (Nat.beq i n)
        (markK a (n + 1) r ls hs fun a n js ls hs => markK b n js ls hs fun b n js ls hs => k (.join ws (dsOf ws [] a.writes) a b) n js ls hs)
        (markK a (n + 1) js ls hs fun a n js ls hs => markK b n js ls hs fun b n js ls hs => k (.seq a b) n js ls hs)
  | .cond x t e, n, js, ls, hs, k => markK t n js ls hs fun t n js ls hs => markK e n js ls hs fun e n js ls hs => k (.cond x t e) n js ls hs
  | .block id c, n, js, ls, hs, k => markK c n js ls hs fun c n js ls hs => k (.block id c) n js ls hs
  | .loop c, n, js, ls, hs, k => match ls with
    | ws :: ls => markK c n js ls hs fun c n js ls hs => k (.loop ws (dsOf ws [] c.writes) c) n js ls hs
    | [] => markK c n js [] hs fun c n js ls hs => k (.loop [] c.writes c) n js ls hs
  | .exit id, n, js, ls, hs, k => k (.exit id) n js ls hs
  | .ret, n, js, ls, hs, k => k .ret n js ls hs
noncomputable def mkD (P : Program) (f : FuncId) (js : List (Nat × List Nat)) (ls : List (List Nat)) (hs : List HT) : D := match cfn P f with
  | some c => markK c.body 0 js ls hs fun d _ _ _ _ => d
  | none => .skip
theorem spec_go {P : Program} (hm : P.follows .mixedOrders = true) (hNG : NamesOK P) {f : FuncId} (n d : Nat) (body : D) (res : List (X × Option (Option Nat))) (hcf : cfn P f = some ⟨n, d, body.erase, res⟩) (hok : body.ok n d = true)
    {args : List Value} (hl : args.length ≤ n) {H : Heap} {nx : Nat} {Q : Value → Heap → Nat → Prop} {F : Prop} (he : wBody P n d body res args H nx Q = F) (h : F) : Ans P f args H nx Q :=
  spec_of_body hm hNG hcf hok hl (he.symm ▸ h)
noncomputable def cN (P : Program) (f : FuncId) : Nat := match cfn P f with
  | some c => c.n
  | none => 0
noncomputable def cR (P : Program) (f : FuncId) : List (X × Option (Option Nat)) := match cfn P f with
  | some c => c.res
  | none => []
theorem spec_at {P : Program} (hm : P.follows .mixedOrders = true) (hNG : NamesOK P) {f : FuncId} {args : List Value} {H : Heap} {nx : Nat} {Q : Value → Heap → Nat → Prop} {F : Prop} {js : List (Nat × List Nat)} {ls : List (List Nat)} {hs : List HT}
    (hc : cfn P f = some ⟨cN P f, Nat.log2 (cN P f) + 1, (mkD P f js ls hs).erase, cR P f⟩) (hok : (mkD P f js ls hs).ok (cN P f) (Nat.log2 (cN P f) + 1) = true) (hl : Nat.ble args.length (cN P f) = true)
    (he : wBody P (cN P f) (Nat.log2 (cN P f) + 1) (mkD P f js ls hs) (cR P f) args H nx Q = F) (h : F) : Ans P f args H nx Q :=
  spec_of_body hm hNG hc hok (Nat.le_of_ble_eq_true hl) (he.symm ▸ h)
noncomputable def wFl (v : Value) (o : Nat) (H : Heap) (k : Value → VP) : Prop := wFld v o fun a => wLd a none H (k a)
theorem wFl_eq (v : Value) (o : Nat) (H : Heap) (k : Value → VP) : wFl v o H k = wFld v o fun a => wLd a none H (k a) := rfl
noncomputable def wFls (v : Value) (o s : Nat) (H : Heap) (k : Value → VP) : Prop := wFld v o fun a => wLd a (some s) H (k a)
theorem wFls_eq (v : Value) (o s : Nat) (H : Heap) (k : Value → VP) : wFls v o s H k = wFld v o fun a => wLd a (some s) H (k a) := rfl
noncomputable def wIx (v i : Value) (H : Heap) (k : Value → VP) : Prop := wIdx v i none 1 fun a => wLd a none H (k a)
theorem wIx_eq (v i : Value) (H : Heap) (k : Value → VP) : wIx v i H k = wIdx v i none 1 fun a => wLd a none H (k a) := rfl
noncomputable def wIxs (v i : Value) (s : Nat) (H : Heap) (k : Value → VP) : Prop := wIdx v i none s fun a => wLd a (some s) H (k a)
theorem wIxs_eq (v i : Value) (s : Nat) (H : Heap) (k : Value → VP) : wIxs v i s H k = wIdx v i none s fun a => wLd a (some s) H (k a) := rfl
noncomputable def wBox (v : Value) (H : Heap) (nx : Nat) (k : EP) : Prop := dBox v fun c => wNew (.cells c 0) .ptr H nx k
theorem wBox_eq (v : Value) (H : Heap) (nx : Nat) (k : EP) : wBox v H nx k = dBox v fun c => wNew (.cells c 0) .ptr H nx k := rfl
noncomputable def wBsl (n s : Nat) (z : List Value) (vs : List (Nat × Value)) (H : Heap) (nx : Nat) (k : EP) : Prop := dBsl n s z vs fun c => wNew (.cells c 0) (.slice n n) H nx k
theorem wBsl_eq (n s : Nat) (z : List Value) (vs : List (Nat × Value)) (H : Heap) (nx : Nat) (k : EP) : wBsl n s z vs H nx k = dBsl n s z vs fun c => wNew (.cells c 0) (.slice n n) H nx k := rfl
noncomputable def wMsl (a b : Value) (z : List Value) (H : Heap) (nx : Nat) (k : EP) : Prop := dMsl a b z fun c l m => wNew (.cells c 0) (.slice l m) H nx k
theorem wMsl_eq (a b : Value) (z : List Value) (H : Heap) (nx : Nat) (k : EP) : wMsl a b z H nx k = dMsl a b z fun c l m => wNew (.cells c 0) (.slice l m) H nx k := rfl
noncomputable def wAl (z : List Value) (H : Heap) (nx : Nat) (k : EP) : Prop := wNew (.cells z 0) .ptr H nx k
theorem wAl_eq (z : List Value) (H : Heap) (nx : Nat) (k : EP) : wAl z H nx k = wNew (.cells z 0) .ptr H nx k := rfl
noncomputable def Rt (v : Value) (H : Heap) (nx : Nat) (k : EP) : Prop := forceV v fun u => k u H nx
theorem Rt_eq (v : Value) (H : Heap) (nx : Nat) (k : EP) : Rt v H nx k = forceV v fun u => k u H nx := rfl
noncomputable def cE (t : Value) (m : Option Nat) (H : Heap) (v : Value) : Prop := wLd t m H fun q => q = v
theorem cE_eq (t : Value) (m : Option Nat) (H : Heap) (v : Value) : cE t m H v = wLd t m H fun q => q = v := rfl
noncomputable def z32 : List Value := [.int .u32 0, .int .u32 0, .int .u32 0, .int .u32 0, .int .u32 0, .int .u32 0, .int .u32 0, .int .u32 0, .int .u32 0, .int .u32 0, .int .u32 0, .int .u32 0, .int .u32 0, .int .u32 0, .int .u32 0, .int .u32 0, .int .u32 0, .int .u32 0, .int .u32 0, .int .u32 0, .int .u32 0, .int .u32 0, .int .u32 0, .int .u32 0, .int .u32 0, .int .u32 0, .int .u32 0, .int .u32 0, .int .u32 0, .int .u32 0, .int .u32 0, .int .u32 0]
theorem z32_eq : z32 = ([.int .u32 0, .int .u32 0, .int .u32 0, .int .u32 0, .int .u32 0, .int .u32 0, .int .u32 0, .int .u32 0, .int .u32 0, .int .u32 0, .int .u32 0, .int .u32 0, .int .u32 0, .int .u32 0, .int .u32 0, .int .u32 0, .int .u32 0, .int .u32 0, .int .u32 0, .int .u32 0, .int .u32 0, .int .u32 0, .int .u32 0, .int .u32 0, .int .u32 0, .int .u32 0, .int .u32 0, .int .u32 0, .int .u32 0, .int .u32 0, .int .u32 0, .int .u32 0] : List Value) := rfl
noncomputable def zR : List Value := [.bool false, .slice none 0 0, .slice none 0 0]
theorem zR_eq : zR = ([.bool false, .slice none 0 0, .slice none 0 0] : List Value) := rfl
noncomputable def i0 : Value := .int .i64 0
theorem i0_eq : i0 = (.int .i64 0 : Value) := rfl
noncomputable def i1 : Value := .int .i64 1
theorem i1_eq : i1 = (.int .i64 1 : Value) := rfl
noncomputable def u0 : Value := .int .u32 0
theorem u0_eq : u0 = (.int .u32 0 : Value) := rfl
noncomputable def u1 : Value := .int .u32 1
theorem u1_eq : u1 = (.int .u32 1 : Value) := rfl
noncomputable def bT : Value := .bool true
theorem bT_eq : bT = (.bool true : Value) := rfl
noncomputable def bF : Value := .bool false
theorem bF_eq : bF = (.bool false : Value) := rfl
def _root_.List.a (l : List Value) : Value := l.getD 0 undef
theorem la_eq (l : List Value) : l.a = l.getD 0 undef := rfl
def _root_.List.b (l : List Value) : Value := l.getD 1 undef
theorem lb_eq (l : List Value) : l.b = l.getD 1 undef := rfl
def _root_.List.c (l : List Value) : Value := l.getD 2 undef
theorem lc_eq (l : List Value) : l.c = l.getD 2 undef := rfl
def _root_.List.d (l : List Value) : Value := l.getD 3 undef
theorem ld_eq (l : List Value) : l.d = l.getD 3 undef := rfl
def _root_.List.e (l : List Value) : Value := l.getD 4 undef
theorem le_eq (l : List Value) : l.e = l.getD 4 undef := rfl
def _root_.List.f (l : List Value) : Value := l.getD 5 undef
theorem lf_eq (l : List Value) : l.f = l.getD 5 undef := rfl
def tA (x : Prop) : Prop := True ∧ x
theorem tA_eq (x : Prop) : tA x = (True ∧ x) := rfl
def tB (x : Prop) : Prop := x ∧ True
theorem tB_eq (x : Prop) : tB x = (x ∧ True) := rfl
def wK (a b : Prop) : Prop := (a ∧ b) ∨ False
theorem wK_eq (a b : Prop) : wK a b = ((a ∧ b) ∨ False) := rfl
theorem W1 : (type_of% @wFl_eq) ∧ (type_of% @wFls_eq) ∧ (type_of% @wIx_eq) ∧ (type_of% @wIxs_eq) ∧ (type_of% @wBox_eq) ∧ (type_of% @wBsl_eq) ∧ (type_of% @wMsl_eq) ∧ (type_of% @wAl_eq) ∧ (type_of% @Rt_eq) ∧ (type_of% @cE_eq) ∧ (type_of% @z32_eq) ∧ (type_of% @zR_eq) ∧ (type_of% @i0_eq) ∧ (type_of% @i1_eq) ∧ (type_of% @u0_eq) ∧ (type_of% @u1_eq) ∧ (type_of% @bT_eq) ∧ (type_of% @bF_eq) ∧ (type_of% @la_eq) ∧ (type_of% @lb_eq) ∧ (type_of% @lc_eq) ∧ (type_of% @ld_eq) ∧ (type_of% @le_eq) ∧ (type_of% @lf_eq) ∧ (type_of% @tA_eq) ∧ (type_of% @tB_eq) ∧ (type_of% @wK_eq) := ⟨@wFl_eq, @wFls_eq, @wIx_eq, @wIxs_eq, @wBox_eq, @wBsl_eq, @wMsl_eq, @wAl_eq, @Rt_eq, @cE_eq, @z32_eq, @zR_eq, @i0_eq, @i1_eq, @u0_eq, @u1_eq, @bT_eq, @bF_eq, @la_eq, @lb_eq, @lc_eq, @ld_eq, @le_eq, @lf_eq, @tA_eq, @tB_eq, @wK_eq⟩
end Go.Clo

namespace Go.Clo
theorem W0 : (type_of% @W1) ∧ (type_of% @List.getD_cons_zero.{0}) ∧ (type_of% @List.getD_cons_succ.{0}) ∧ (type_of% @wBin_lss) ∧ (type_of% @wBin_leq) ∧ (type_of% @wBin_gtr) ∧ (type_of% @wBin_geq) ∧ (type_of% @wBin_eql) ∧ (type_of% @wBin_neq) ∧ (type_of% @wIf_bool) ∧ (type_of% @wGuard_true) ∧ (type_of% @wGuard_false) ∧ (type_of% @wPick_true) ∧ (type_of% @wPick_false) ∧ (type_of% @wUn_not) ∧ (type_of% @wFld_eq) ∧ (type_of% @wExt_eq) ∧ (type_of% @wPart_one) ∧ (type_of% @wPart_agg) ∧ (type_of% @wLen_slice) ∧ (type_of% @wLen_string) ∧ (type_of% @wNew_eq) ∧ (type_of% @wNm_eq) ∧ (type_of% @dBox_agg) ∧ (type_of% @dBox_int) ∧ (type_of% @dBox_slice) ∧ (type_of% @dBox_string) ∧ (type_of% @dBox_bool) ∧ (type_of% @dBox_map) ∧ (type_of% @dBox_ptr) ∧ (type_of% @wLd_none) ∧ (type_of% @wLd_2) ∧ (type_of% @wLd_3) ∧ (type_of% @wLd_32) ∧ (type_of% @ldP_cells) ∧ (type_of% @ldP_rom) ∧ (type_of% @cellP_one) ∧ (type_of% @getH_same) ∧ (type_of% @getH_ne) ∧ (type_of% @forceV_eq) ∧ (type_of% @forceN_eq) ∧ (type_of% @hsK_eq) ∧ (type_of% @Option.elim_some.{1, 0}) ∧ (type_of% @List.getElem?_cons_zero.{0}) ∧ (type_of% @List.getElem?_cons_succ.{0}) ∧ (type_of% @decide_true) ∧ (type_of% @decide_false) ∧ (type_of% @if_true.{1}) ∧ (type_of% @if_false.{1}) ∧ (type_of% @Bool.false_eq_true) ∧ (type_of% @Nat.zero_add) ∧ (type_of% @Nat.add_zero) ∧ (type_of% @and_true) ∧ (type_of% @true_and) ∧ (type_of% @or_false) ∧ (type_of% @Bool.not_true) ∧ (type_of% @Bool.not_false) ∧ (type_of% @and_self) ∧ (type_of% @wBin_add64) ∧ (type_of% @wBin_sub64) ∧ (type_of% @wIdx_slice) ∧ (type_of% @wIdx_array) ∧ (type_of% @wNilc_eq) ∧ (type_of% @Int.toNat_natCast) ∧ (type_of% @Nat.mul_one) ∧ (type_of% @Nat.zero_mul) ∧ (type_of% @wSt_agg) ∧ (type_of% @wSt_int) ∧ (type_of% @wSt_bool) ∧ (type_of% @wSt_string) ∧ (type_of% @wSt_slice) ∧ (type_of% @wSt_ptr) ∧ (type_of% @wSt_map) ∧ (type_of% @wSt_func) ∧ (type_of% @stP_cells) ∧ (type_of% @bit_one) ∧ (type_of% @bit_zero) ∧ (type_of% @bit_one') ∧ (type_of% @bit_zero') ∧ (type_of% @wBin_shr32) ∧ (type_of% @wBin_and1) ∧ (type_of% @wBin_rem2) ∧ (type_of% @wBin_andNot32) ∧ (type_of% @wBin_or32) ∧ (type_of% @wBin_and32) ∧ (type_of% @wBin_shl32) ∧ (type_of% @u32_eq_zero) ∧ (type_of% @u32_ne_zero) ∧ (type_of% @List.length_cons.{0}) ∧ (type_of% @List.length_nil.{0}) ∧ (type_of% @Nat.le_refl) ∧ (type_of% @Int.toNat_zero) ∧ (type_of% @Int.toNat_one) :=
  ⟨@W1, @List.getD_cons_zero.{0}, @List.getD_cons_succ.{0}, @wBin_lss, @wBin_leq, @wBin_gtr, @wBin_geq, @wBin_eql, @wBin_neq, @wIf_bool, @wGuard_true, @wGuard_false, @wPick_true, @wPick_false, @wUn_not, @wFld_eq, @wExt_eq, @wPart_one, @wPart_agg, @wLen_slice, @wLen_string, @wNew_eq, @wNm_eq, @dBox_agg, @dBox_int, @dBox_slice, @dBox_string, @dBox_bool, @dBox_map, @dBox_ptr, @wLd_none, @wLd_2, @wLd_3, @wLd_32, @ldP_cells, @ldP_rom, @cellP_one, @getH_same, @getH_ne, @forceV_eq, @forceN_eq, @hsK_eq, @Option.elim_some.{1, 0}, @List.getElem?_cons_zero.{0}, @List.getElem?_cons_succ.{0}, @decide_true, @decide_false, @if_true.{1}, @if_false.{1}, @Bool.false_eq_true, @Nat.zero_add, @Nat.add_zero, @and_true, @true_and, @or_false, @Bool.not_true, @Bool.not_false, @and_self, @wBin_add64, @wBin_sub64, @wIdx_slice, @wIdx_array, @wNilc_eq, @Int.toNat_natCast, @Nat.mul_one, @Nat.zero_mul, @wSt_agg, @wSt_int, @wSt_bool, @wSt_string, @wSt_slice, @wSt_ptr, @wSt_map, @wSt_func, @stP_cells, @bit_one, @bit_zero, @bit_one', @bit_zero', @wBin_shr32, @wBin_and1, @wBin_rem2, @wBin_andNot32, @wBin_or32, @wBin_and32, @wBin_shl32, @u32_eq_zero, @u32_ne_zero, @List.length_cons.{0}, @List.length_nil.{0}, @Nat.le_refl, @Int.toNat_zero, @Int.toNat_one⟩
end Go.Clo

namespace Go.Proofs.YtbmiedinclieaaaGreatDoor
open Go.Clo
theorem mixed : Tryz.prog.follows .mixedOrders = true := by kernel_rfl
theorem names_ok : (Tryz.prog.funcs.toList.all fun f => !(f.name == "runtime.NumGoroutine")) = true := by kernel_rfl
theorem namesOK : NamesOK Tryz.prog := by
  intro f fn hf
  have h1 := List.all_eq_true.1 names_ok fn (List.mem_of_getElem? (by simpa using hf))
  cases hx : (fn.name == "runtime.NumGoroutine") with
  | false => rfl
  | true => rw [hx] at h1; cases h1
theorem specA {f : FuncId} {args : List Value} {H : Heap} {nx : Nat} {Q : Value → Heap → Nat → Prop} {F : Prop} (js : List (Nat × List Nat)) (ls : List (List Nat)) (hs : List HT)
    (hc : cfn Tryz.prog f = some ⟨cN Tryz.prog f, Nat.log2 (cN Tryz.prog f) + 1, (mkD Tryz.prog f js ls hs).erase, cR Tryz.prog f⟩ := by kernel_rfl) (hok : (mkD Tryz.prog f js ls hs).ok (cN Tryz.prog f) (Nat.log2 (cN Tryz.prog f) + 1) = true := by kernel_rfl) (hl : Nat.ble args.length (cN Tryz.prog f) = true := by kernel_rfl)
    (he : wBody Tryz.prog (cN Tryz.prog f) (Nat.log2 (cN Tryz.prog f) + 1) (mkD Tryz.prog f js ls hs) (cR Tryz.prog f) args H nx Q = F := by kernel_rfl) (h : F) : Ans Tryz.prog f args H nx Q :=
  spec_at mixed namesOK hc hok hl he h
end Go.Proofs.YtbmiedinclieaaaGreatDoor
