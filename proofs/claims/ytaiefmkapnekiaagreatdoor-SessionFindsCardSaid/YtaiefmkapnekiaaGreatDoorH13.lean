/-
  The executor as a claim: closed runs as claims; the way in, from arguments that stand in the world.
-/
import Derived.Test.YtaiefmkapnekiaaGreatDoorH3
import Derived.Carry
import Derived.ChangeArms
import Derived.DataReads
import Derived.Below
set_option linter.all false
namespace Go.Clo

/-- A closed run is a claim. -/
theorem ans_of_run {P : Program} {n : Nat} {orc : Orc} (hm : P.follows .mixedOrders = true) (hNG : NamesOK P) (ho : OrcOK P orc) {f : FuncId} {args : List Value} {v : Value} (hr : runA P orc n f args = some v) (ha : args.all flat1 = true) (hv : flat v = true) (H : Heap) (nx : Nat) :
    Ans P f args H nx fun v' H' nx' => v = v' ∧ H = H' ∧ nx = nx' := by
  have hE : Enters P f := by
    unfold runA at hr
    rcases callN_sound (β := Option Value) hm hNG ho n f args .leaf 0 none (fun v _ _ => some v) with h | ⟨v', H', nx', h, hcs⟩
    · rw [h] at hr; cases hr
    · exact hcs.1
  refine ⟨v, H, nx, ⟨hE, fun F args' w hh hl => ?_⟩, rfl, rfl, rfl⟩
  have e := flatL_eq hl ha
  subst e
  refine (run_calls hm hNG ho hr ha hv w hh.gl.1).mono fun e w' ⟨he, hb⟩ => ⟨v, F, he, flat_refl F v hv, ?_⟩
  exact { le := Nat.le_refl _, ext := fun _ _ => rfl, os := hb.os, tape := hb.tape, output := hb.output, size := hb.size, frame := fun b h _ => hb.block b h, own := fun _ h => .inl h, keep := fun _ _ h => h, rom := fun i b h _ => ⟨hh.low h, h⟩, hr := ⟨fun i b hi hg => let ⟨t, h1, h2⟩ := hh.blk i b hi hg; ⟨t, h1, h2.mono (fun _ _ h => h) (hb.block _ h2.lt)⟩, hh.inj, hh.fresh, hh.top, hh.gl.step (fun b h _ => hb.block b h) (fun _ h => .inl h)⟩ }

/-- An abstract heap of arguments: all of it is only read. -/
structure In (w : World) (F : FM) (H : Heap) (nx : Nat) : Prop where
  hr : HR F H nx w
  rom : ∀ i b, getH H i = some b → b.isRom = true
theorem In.start (w : World) (hgw : GlW w) : In w (fun _ => none) .leaf 0 :=
  ⟨⟨fun i b hi => by omega, fun i j bi bj ti tj hi => by omega, fun _ _ => rfl, fun i _ => getH_leaf i, ⟨hgw, fun x hx ⟨i, _, _, hi, _⟩ => by omega⟩⟩, fun i b h => by rw [getH_leaf] at h; cases h⟩

theorem calls_of_ans {P : Program} {f : FuncId} {args args' : List Value} {H : Heap} {nx : Nat} {Q : Value → Heap → Nat → Prop} {w : World} {F : FM} (h : Ans P f args H nx Q) (hQ : ∀ v H' nx', Q v H' nx' → v = .bool true) (hi : In w F H nx) (hl : VL F args args') :
    Calls P f args'.toArray w fun e w' => e = .returned (.bool true) ∧ RowKit.Below w.heap.size w w' := by
  obtain ⟨v, H', nx', hcs, hq⟩ := h
  have := hQ _ _ _ hq
  subst this
  refine (hcs.2 F args' w hi.hr hl).mono fun e w' ⟨v', F', he, hvr, hst⟩ => ?_
  cases hvr
  refine ⟨he, hst.os, hst.tape, hst.output, hst.size, fun b hb => hst.frame b hb ?_⟩
  rintro ⟨i, k, t, _, hg, hk, _⟩
  rw [hi.rom i k hg] at hk; cases hk

def putF (F : FM) (i : Nat) (t : Tgt) : FM := fun j => if j = i then some t else F j
theorem putF_le {w : World} {F : FM} {H : Heap} {nx : Nat} (h : In w F H nx) (t : Tgt) : F.le (putF F nx t) := by
  intro i u hu
  have : i ≠ nx := by
    intro e; subst e
    rw [h.hr.fresh i (Nat.le_refl _)] at hu; cases hu
  simp [putF, this, hu]

/-- A name for an address. -/
theorem In.name {w : World} {F : FM} {H : Heap} {nx : Nat} (h : In w F H nx) (t : Tgt) : In w (putF F nx t) H (nx + 1) := by
  have hle := putF_le h t
  refine ⟨⟨fun i b hi hg => ?_, fun i j bi bj ti tj hi hj hgi hgj _ _ _ => .inr ⟨h.rom _ _ hgi, h.rom _ _ hgj⟩, fun i hi => ?_, fun i hi => h.hr.top i (by omega), ⟨h.hr.gl.1, fun x hx ⟨i, k, u, _, hg, hk, _⟩ => by rw [h.rom i k hg] at hk; cases hk⟩⟩, h.rom⟩
  · obtain ⟨u, h1, h2⟩ := h.hr.blk i b (h.hr.low hg) hg
    exact ⟨u, hle _ _ h1, h2.mono hle rfl⟩
  · have : i ≠ nx := by omega
    simp [putF, this]; exact h.hr.fresh i (by omega)
/-- A row that is only read. -/
theorem In.row {w : World} {F : FM} {H : Heap} {nx : Nat} (h : In w F H nx) {a : Nat} {off : Nat} {c' : Array Value} {e : TypeId} {m : Nat × Nat} {c : List Value} (hb : w.heap[a]? = some (.cells c' e m)) (hle : off + c.length ≤ c'.size)
    (hv : VL F c ((c'.toList.drop off).take c.length)) : In w (putF F nx ⟨a, off, c.length, 0, c'.size⟩) (hs H nx (some (.rom c))) (nx + 1) := by
  have h1 := h.name ⟨a, off, c.length, 0, c'.size⟩
  have hle2 := putF_le h ⟨a, off, c.length, 0, c'.size⟩
  have hrom : ∀ i b, getH (hs H nx (some (.rom c))) i = some b → b.isRom = true := by
    intro i b hg
    rw [getH_hs] at hg
    split at hg
    · cases hg; rfl
    · exact h.rom i b hg
  refine ⟨⟨fun i b hi hg => ?_, fun i j bi bj ti tj hi hj hgi hgj _ _ _ => .inr ⟨hrom _ _ hgi, hrom _ _ hgj⟩, h1.hr.fresh, fun i hi => ?_, ⟨h.hr.gl.1, fun x hx ⟨i, k, u, _, hg, hk, _⟩ => by rw [hrom i k hg] at hk; cases hk⟩⟩, hrom⟩
  · rw [getH_hs] at hg
    split at hg
    · rename_i hi2
      subst hi2
      cases hg
      refine ⟨_, by simp [putF]; rfl, ?_⟩
      exact ⟨c', e, m, hb, rfl, rfl, rfl, hle, VL.mono hle2 hv⟩
    · exact h1.hr.blk i b hi hg
  · rw [getH_hs, if_neg (by omega)]; exact h.hr.top i (by omega)

theorem exists_list {α : Type} {p : Nat → α → Prop} : ∀ {n : Nat}, (∀ i, i < n → ∃ a, p i a) → ∃ xs : List α, xs.length = n ∧ ∀ i a, xs[i]? = some a → p i a
  | 0, _ => ⟨[], rfl, fun i a h => by simp at h⟩
  | n + 1, h => by
    obtain ⟨xs, h1, h2⟩ := exists_list (n := n) (p := p) fun i hi => h i (by omega)
    obtain ⟨a, ha⟩ := h n (by omega)
    refine ⟨xs ++ [a], by simp [h1], fun i b hb => ?_⟩
    by_cases hi : i < n
    · rw [List.getElem?_append_left (by omega)] at hb; exact h2 i b hb
    · have : i = n := by
        have := (List.getElem?_eq_some_iff.mp hb).1
        simp at this; omega
      subst this
      rw [List.getElem?_append_right (by omega), h1, Nat.sub_self] at hb
      simp at hb; subst hb; exact ha
theorem flat_rows {α : Type} {f : α → List Value} {sz : Nat} (hf : ∀ a, (f a).length = sz) : ∀ (xs : List α) (l : List Value), (∀ i a, xs[i]? = some a → (l.drop (i * sz)).take sz = f a) → l.take (xs.length * sz) = xs.flatMap f
  | [], l, _ => by simp
  | a :: xs, l, h => by
    have h0 : l.take sz = f a := by simpa using h 0 a rfl
    have ih := flat_rows hf xs (l.drop sz) fun i b hb => by
      have := h (i + 1) b (by simpa using hb)
      rw [List.drop_drop]
      rw [Nat.add_mul, Nat.one_mul, Nat.add_comm] at this
      exact this
    rw [List.length_cons, Nat.add_mul, Nat.one_mul, Nat.add_comm, List.take_add, h0, ih]; rfl
theorem flat_length {α : Type} {f : α → List Value} {sz : Nat} (hf : ∀ a, (f a).length = sz) (xs : List α) : (xs.flatMap f).length = xs.length * sz := by
  induction xs with
  | nil => simp
  | cons a xs ih => simp [hf, ih, Nat.add_mul]; omega

section
variable {X : Type} {enc : TypeId × Value → X} {P : Program} {w : World} {base : Nat} {spare : Nat → Bool} {held : Bool}

theorem cells_at {a : Addr} {c' : Array Value} {e : TypeId} {m : Nat × Nat} (hb : w.heap[a.block]? = some (.cells c' e m)) (hs : a.spot = none) {k sz : Nat} {cs : List Value} (h : w.cells? base (a.add k) sz = some cs) :
    (c'.toList.drop (a.off + k)).take sz = cs := by
  obtain ⟨_, hl, hc⟩ := World.cells?_some h
  apply List.ext_getElem?
  intro i
  rw [List.getElem?_take]
  split
  · rename_i hi
    rw [← hc i hi, List.getElem?_drop]
    have hadd : ∀ (b : Addr) (n : Nat), b.spot = none → b.add n = ⟨b.block, b.off + n, none⟩ := by
      intro b n hn
      unfold Addr.add
      split
      · rename_i h0
        subst h0
        cases b; simp at hn; subst hn; rfl
      · rfl
    rw [hadd a k hs, hadd _ i rfl]
    simp [World.cell?, hb, Nat.add_assoc]
  · rw [List.getElem?_eq_none (by omega)]

/-- A slice whose elements' cells are plain. -/
theorem In.slice {α : Type} {f : α → List Value} {Pr : α → Prop} {sz : Nat} {F : FM} {H : Heap} {nx : Nat} (hi : In w F H nx) {t e : TypeId} {A : Option Addr} {len cap b0 fuel : Nat} {r : Reach} {x : DataW X × List MemPlace}
    (ht : P.underlying t = some (.slice e)) (hsz : P.cellsOf e = sz) (hf : ∀ a, (f a).length = sz) (hok : Cell.ok P w r b0 t (.slice A len cap)) (htr : DataW.trod enc P w base spare held fuel t [.slice A len cap] = some x)
    (helem : ∀ n cs y, DataW.trod enc P w base spare held n e cs = some y → ∃ a, f a = cs ∧ Pr a) (hflat : ∀ a, (f a).all flat1 = true) :
    ∃ (F' : FM) (H' : Heap) (nx' : Nat) (A' : Option Addr) (xs : List α), In w F' H' nx' ∧ F.le F' ∧ VR F' (.slice A' len cap) (.slice A len cap) ∧ xs.length = len ∧ (∀ a ∈ xs, Pr a) ∧ Sl H' nx' A' (xs.flatMap f) ∧ Ext H nx H' nx' ∧ len ≤ maxLen := by
  rcases DataW.trod_slice ht htr with ⟨h0, _⟩ | ⟨a, len', cap', elems, rest, n, _, h0, _, _, hl, hm, hlen, hel, _, _⟩
  · simp at h0
    obtain ⟨rfl, rfl, rfl⟩ := h0
    exact ⟨F, H, nx, none, [], hi, fun _ _ h => h, .sliceN _ _, rfl, by simp, fun i v h => by simp at h, Ext.refl _ _, Nat.zero_le _⟩
  · simp at h0
    obtain ⟨rfl, rfl, rfl⟩ := h0
    have hspot : a.spot = none := by
      simp only [Cell.ok, ht] at hok
      exact hok.2.2.2.1
    obtain ⟨c', ety, m, hb⟩ : ∃ c' ety m, w.heap[a.block]? = some (.cells c' ety m) := by
      simp only [Cell.ok, ht] at hok
      obtain ⟨_, _, _, _, row, cells, hsh, _⟩ := hok
      unfold World.shape? at hsh
      split at hsh
      · exact ⟨_, _, _, by assumption⟩
      · cases hsh
    obtain ⟨xs, hx1, hx2⟩ : ∃ xs : List α, xs.length = len ∧ ∀ i y, xs[i]? = some y → (c'.toList.drop (a.off + i * sz)).take sz = f y ∧ Pr y := by
      refine exists_list fun i hil => ?_
      have h1 := hel i hil
      rw [List.getElem?_eq_getElem (by omega)] at h1
      obtain ⟨cs, h2, h3⟩ := Option.bind_eq_some_iff.mp h1
      obtain ⟨y, rfl, hy⟩ := helem _ _ _ h3
      rw [hsz] at h2
      exact ⟨y, cells_at hb hspot h2, hy⟩
    have hPr : ∀ y ∈ xs, Pr y := fun y hy => by
      obtain ⟨i, hil, rfl⟩ := List.getElem_of_mem hy
      exact (hx2 i _ (List.getElem?_eq_getElem hil)).2
    have hrows : (c'.toList.drop a.off).take (len * sz) = xs.flatMap f := by
      rw [← hx1]
      exact flat_rows hf xs _ fun i y hy => by rw [List.drop_drop]; exact (hx2 i y hy).1
    have hlenF := flat_length hf xs
    by_cases hz : xs.flatMap f = []
    · refine ⟨putF F nx ⟨a.block, a.off, 0, 0, 0⟩, H, nx + 1, some ⟨nx, 0, none⟩, xs, hi.name _, putF_le hi _, ?_, hx1, hPr, fun i v h => by rw [hz] at h; simp at h, Ext.self (by omega), by omega⟩
      have := VR.slice (F := putF F nx ⟨a.block, a.off, 0, 0, 0⟩) (b := nx) (o := 0) (n := len) (c := cap) (c' := cap) (t := ⟨a.block, a.off, 0, 0, 0⟩) (by simp [putF]) (.inl rfl)
      have ha : a = ⟨a.block, a.off + 0, none⟩ := by cases a; simp at hspot; subst hspot; rfl
      rw [ha]; exact this
    · have hle : a.off + (xs.flatMap f).length ≤ c'.size := by
        have h1 := congrArg List.length hrows
        simp only [List.length_take, List.length_drop, Array.length_toList] at h1
        have h2 : 0 < (xs.flatMap f).length := List.length_pos_iff.mpr hz
        omega
      have hvl : VL F (xs.flatMap f) ((c'.toList.drop a.off).take (xs.flatMap f).length) := by
        rw [hlenF, hx1, hrows]
        refine flatL_refl F _ ?_
        rw [List.all_eq_true]
        intro v hv
        obtain ⟨y, _, hy⟩ := List.mem_flatMap.mp hv
        exact List.all_eq_true.mp (hflat y) v hy
      refine ⟨_, _, _, some ⟨nx, 0, none⟩, xs, hi.row hb hle hvl, putF_le hi _, ?_, hx1, hPr, fun i v h => ⟨nx, 0, xs.flatMap f, rfl, by omega, by rw [rowOf, getH_same]; rfl, by rw [Nat.zero_add]; exact h⟩, (Ext.refl H nx).new _ (Nat.le_refl _) (by omega), by omega⟩
      have := VR.slice (F := putF F nx ⟨a.block, a.off, (xs.flatMap f).length, 0, c'.size⟩) (b := nx) (o := 0) (n := len) (c := cap) (c' := cap) (t := ⟨a.block, a.off, (xs.flatMap f).length, 0, c'.size⟩) (by simp [putF]) (.inl rfl)
      have ha : a = ⟨a.block, a.off + 0, none⟩ := by cases a; simp at hspot; subst hspot; rfl
      rw [ha]; exact this

/-- Behind the call: what the arguments hold reads as it did. -/
theorem trodAll_below (hl : laidOutB P = true) {W W' : World} (hb : RowKit.Below W.heap.size W W') : ∀ (ts : List TypeId) (vs : List Value) (ds : List (DataW X)) (ps : List MemPlace), (∀ t ∈ ts, P.readableRec t = true ∧ t < P.types.size) →
    DataW.TrodAll enc P W 0 (fun _ => true) true ts vs ds ps → (∀ x ∈ ps, x.block < W.heap.size) → DataW.TrodAll enc P W' 0 (fun b => decide (b < W.heap.size)) true ts vs ds ps
  | [], [], [], ps, _, h, _ => h
  | t :: ts, v :: vs, d :: ds, ps, ht, ⟨p, q, h1, h2, e⟩, hlt => by
    subst e
    refine ⟨p, q, ?_, trodAll_below hl hb ts vs ds q (fun u hu => ht u (List.mem_cons_of_mem _ hu)) h2 fun x hx => hlt x (List.mem_append_right _ hx), rfl⟩
    obtain ⟨h3, h4⟩ := ht t List.mem_cons_self
    exact RowKit.Below.trod hl h3 h4 h1 hb fun x hx => hlt x (List.mem_append_left _ hx)

theorem post_of_below {f : Func} {s : ChangeSpec} {apart fresh handsOn : Bool} {W W' : World} {args : Array Value} {v : Value} {ds gs : List (DataW X)} {before pa pv : List MemPlace}
    (hW : DataW.Whole enc P f.params.toList s.vars apart W args.toList ds gs before) (hb : RowKit.Below W.heap.size W W')
    (hres : ∀ (b : Nat) (sp : Nat → Bool) (hd : Bool), DataW.TrodAll enc P W' b sp hd f.resultTypes.toList (v.resultList f.resultTypes.size) (s.fn X (ds ++ gs)).results [])
    (hargs : DataW.TrodAll enc P W' 0 (fun b => decide (b < W.heap.size)) true f.params.toList args.toList (s.fn X (ds ++ gs)).args pa)
    (hvars : DataW.TrodVars enc P W' (fun b => decide (b < W.heap.size)) s.vars (s.fn X (ds ++ gs)).vars pv) : s.post enc P f apart fresh handsOn false W args v W' :=
  ⟨ds, gs, before, [], pa, pv, hW, hres _ _ _, hargs, hvars, hb.frame _, fun h => by cases h⟩
end
end Go.Clo
