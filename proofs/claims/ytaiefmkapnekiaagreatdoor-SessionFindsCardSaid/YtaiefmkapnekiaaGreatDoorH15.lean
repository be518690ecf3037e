/-
  The executor as a claim: contracts of the library, proved in the world itself, as claims on the abstract heap.
-/
import Derived.Test.YtaiefmkapnekiaaGreatDoorH14
import Derived.Laws.AppendOwn
set_option linter.all false
namespace Go.Clo

/-- Nothing that has a name has turned. -/
theorem Stp.below {F : FM} {H : Heap} {nx : Nat} {w w' : World} (hh : HR F H nx w) (hb : RowKit.Below w.heap.size w w') : Stp F H nx w F H nx w' :=
  { le := Nat.le_refl _, ext := fun _ _ => rfl, os := hb.os, tape := hb.tape, output := hb.output, size := hb.size, frame := fun b h _ => hb.block b h, own := fun _ h => .inl h, keep := fun _ _ h => h, rom := fun i b h _ => ⟨hh.low h, h⟩, hr := ⟨fun i b hi hg => let ⟨t, h1, h2⟩ := hh.blk i b hi hg; ⟨t, h1, h2.mono (fun _ _ h => h) (hb.block _ h2.lt)⟩, hh.inj, hh.fresh, hh.top, hh.gl.step (fun b h _ => hb.block b h) (fun _ h => .inl h)⟩ }
theorem below_refl (w : World) : RowKit.Below w.heap.size w w := ⟨rfl, rfl, rfl, Nat.le_refl _, fun _ _ => rfl⟩

/-- A function of values alone. -/
theorem ans_flat {P : Program} {f : FuncId} {args : List Value} {v : Value} (hE : Enters P f) (ha : args.all flat1 = true) (hv : flat v = true) (h : ∀ w, Calls P f args.toArray w fun e w' => e = .returned v ∧ w' = w) (H : Heap) (nx : Nat) :
    Ans P f args H nx fun r H' nx' => v = r ∧ H = H' ∧ nx = nx' := by
  refine ⟨v, H, nx, ⟨hE, fun F args' w hh hl => ?_⟩, rfl, rfl, rfl⟩
  have e := flatL_eq hl ha
  subst e
  refine (h w).mono fun e w' ⟨he, hw⟩ => ?_
  subst hw
  exact ⟨v, F, he, flat_refl F v hv, Stp.refl hh⟩

/-- The cells of a slice, in the world. -/
theorem cell_of_sl {F : FM} {H : Heap} {nx : Nat} {w : World} (hh : HR F H nx w) {b o : Nat} {t : Tgt} {xs : List Value} (hF : F b = some t) (hS : Sl H nx (some ⟨b, o, none⟩) xs) {i : Nat} {v : Value} (hi : xs[i]? = some v) :
    ∃ v', w.cell? ⟨t.blk, t.base + o + i, none⟩ = some v' ∧ VR F v v' := by
  obtain ⟨b', o', row, e, hb, hrow, hv⟩ := hS i v hi
  cases e
  unfold rowOf at hrow
  cases hg : getH H b with
  | none => rw [hg] at hrow; cases hrow
  | some blk =>
    rw [hg] at hrow
    have hbr := hh.hb.get hF hg
    have main : ∀ (c : List Value) (c' : Array Value), row = c → VL F c ((c'.toList.drop t.base).take c.length) → ∃ v', c'[t.base + o + i]? = some v' ∧ VR F v v' := by
      intro c c' e hvl
      subst e
      obtain ⟨v', h1, h2⟩ := hvl.some hv
      refine ⟨v', ?_, h2⟩
      rw [List.getElem?_take] at h1
      split at h1
      · rw [List.getElem?_drop, Array.getElem?_toList] at h1
        rw [← h1]; congr 1; omega
      · cases h1
    cases blk with
    | map es q => cases hrow
    | iter _ _ _ => cases hrow
    | cells c sl =>
      obtain ⟨c', e, _, hw, _, _, _, _, hvl⟩ := hbr
      simp only [Option.bind_some, Blk.row, Option.some.injEq] at hrow
      obtain ⟨v', h1, h2⟩ := main c c' hrow.symm hvl
      exact ⟨v', by simp [World.cell?, hw, h1], h2⟩
    | rom c =>
      obtain ⟨c', e, m, hw, _, _, _, _, hvl⟩ := hbr
      simp only [Option.bind_some, Blk.row, Option.some.injEq] at hrow
      obtain ⟨v', h1, h2⟩ := main c c' hrow.symm hvl
      exact ⟨v', by simp [World.cell?, hw, h1], h2⟩
theorem blk_of_sl {F : FM} {H : Heap} {nx : Nat} {w : World} (hh : HR F H nx w) {b o : Nat} {t : Tgt} {xs : List Value} (hF : F b = some t) (hS : Sl H nx (some ⟨b, o, none⟩) xs) (h0 : 0 < xs.length) : t.blk < w.heap.size := by
  obtain ⟨v', h1, _⟩ := cell_of_sl hh hF hS (List.getElem?_eq_getElem h0)
  unfold World.cell? at h1
  rcases Nat.lt_or_ge t.blk w.heap.size with g | g
  · exact g
  · rw [Array.getElem?_eq_none g] at h1; cases h1

/-- A new row that the call has made, one cell an element. -/
theorem Stp.row {F : FM} {H : Heap} {nx : Nat} {w w' : World} (hh : HR F H nx w) (hb : RowKit.Below w.heap.size w w') {g cap : Nat} {cur : Array Value} {e : TypeId} {xs : List Value} (hg : w.heap.size ≤ g) (hc : w'.heap[g]? = some (.cells cur e (0, 0)))
    (h1 : xs.length ≤ cap) (h2 : cur.size = cap) (h3 : cur.toList.take xs.length = xs) (hbd : cap ≤ 9223372036854775807) (hfl : xs.all flat1 = true) :
    ∃ F', VR F' (.slice (some ⟨nx, 0, none⟩) xs.length xs.length) (.slice (some ⟨g, 0, none⟩) xs.length cap) ∧ Stp F H nx w F' (hs H nx (some (.cells xs 1))) (nx + 1) w' := by
  refine ⟨upd F nx ⟨g, 0, xs.length, 1, cap⟩, ?_, Stp.name hh rfl hb.os hb.tape hb.output hb.size (fun k hk => hb.block k hk) ?_ hg⟩
  · have := VR.slice (F := upd F nx ⟨g, 0, xs.length, 1, cap⟩) (b := nx) (o := 0) (n := xs.length) (c := xs.length) (c' := cap) (t := ⟨g, 0, xs.length, 1, cap⟩) (upd_same _ _ _) (.inr ⟨Nat.one_pos, h1, by simp, by simp, hbd⟩)
    exact this
  · refine ⟨cur, e, _, hc, ⟨h2, TyOK.low _ (by omega), FzOK.none _⟩, rfl, rfl, by simpa using h1, ?_⟩
    simp only [List.drop_zero]
    rw [h3]
    exact flatL_refl _ _ hfl
theorem Acc.of_new (H : Heap) (nx : Nat) (xs : List Value) : Acc nx (Go.Clo.hs H nx (some (.cells xs 1))) (nx + 1) 1 (.slice (some ⟨nx, 0, none⟩) xs.length xs.length) xs.length xs :=
  ⟨by simp, .inr ⟨nx, Nat.le_refl _, by omega, rfl, getH_same _ _ _⟩⟩

/-- A slice whose row is there, or of no capacity (it may point anywhere). -/
def HasW (H : Heap) (nx : Nat) (A : Option Addr) (n cap : Nat) : Prop := (Has H nx A ∧ (A = none → cap = 0)) ∨ ∃ s, A = some ⟨0, 0, some s⟩ ∧ n = 0 ∧ cap = 0
theorem HasW.ext {H : Heap} {nx : Nat} {A : Option Addr} {n cap : Nat} {H' : Heap} {nx' : Nat} (h : HasW H nx A n cap) (e : Ext H nx H' nx') : HasW H' nx' A n cap := h.imp (fun h => ⟨h.1.ext e, h.2⟩) id
/-! Strings in memory. -/
def strs (zs : List ByteArray) : List Value := zs.map Value.string
theorem strs_get {zs : List ByteArray} {i : Nat} {z : ByteArray} (h : zs[i]? = some z) : (strs zs)[i]? = some (.string z) := by simp [strs, h]
theorem strs_length (zs : List ByteArray) : (strs zs).length = zs.length := by simp [strs]
theorem strs_flat (zs : List ByteArray) : (strs zs).all flat1 = true := by simp [strs, flat1]
theorem oneCells_strs : ∀ zs : List ByteArray, oneCells (strs zs) = true
  | [] => rfl
  | z :: zs => oneCells_strs zs
end Go.Clo
