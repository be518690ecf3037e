/-
  The executor as a claim: slices that read as lists.
-/
import Derived.Test.YtdecggbglnbhlaaGreatDoorCloV
set_option linter.unusedSimpArgs false
set_option linter.unusedVariables false
set_option linter.unusedSectionVars false
namespace Go.Clo

noncomputable def rowOf (H : Heap) (b : Nat) : Option (List Value) := (getH H b).bind Blk.row
theorem ldP_row {H : Heap} {b : Nat} {row : List Value} (h : rowOf H b = some row) (o : Nat) (size : Option Nat) (k : VP) : ldP (getH H b) o size k = cellP row o size k := by
  unfold rowOf at h
  cases hg : getH H b with
  | none => rw [hg] at h; cases h
  | some blk =>
    rw [hg] at h
    cases blk with
    | map es q => cases h
    | cells c sl => cases h; rfl
    | rom c => cases h; rfl
theorem Ext.row {H : Heap} {nx : Nat} {H' : Heap} {nx' b : Nat} (h : Ext H nx H' nx') (hb : b < nx) : rowOf H' b = rowOf H b := by unfold rowOf; rw [h.get b hb]

/-- The slice at A holds these cells. -/
def Sl (H : Heap) (nx : Nat) (A : Option Addr) (c : List Value) : Prop :=
  ∀ i v, c[i]? = some v → ∃ b o row, A = some ⟨b, o, none⟩ ∧ b < nx ∧ rowOf H b = some row ∧ row[o + i]? = some v
theorem Sl.ext {H : Heap} {nx : Nat} {H' : Heap} {nx' : Nat} {A : Option Addr} {c : List Value} (h : Sl H nx A c) (e : Ext H nx H' nx') : Sl H' nx' A c := fun i v hv =>
  let ⟨b, o, row, h1, h2, h3, h4⟩ := h i v hv
  ⟨b, o, row, h1, Nat.lt_of_lt_of_le h2 e.le, by rw [e.row h2]; exact h3, h4⟩
theorem Sl.nil (H : Heap) (nx : Nat) (A : Option Addr) : Sl H nx A [] := fun i v h => by simp at h
theorem Sl.open {H : Heap} {nx : Nat} {A : Option Addr} {c : List Value} (h : Sl H nx A c) {i : Nat} (hi : i < c.length) :
    ∃ b o row, A = some ⟨b, o, none⟩ ∧ b < nx ∧ rowOf H b = some row ∧ ∀ j v, c[j]? = some v → row[o + j]? = some v := by
  obtain ⟨b, o, row, h1, h2, h3, _⟩ := h i c[i] (List.getElem?_eq_getElem hi)
  refine ⟨b, o, row, h1, h2, h3, fun j v hv => ?_⟩
  obtain ⟨b', o', row', g1, g2, g3, g4⟩ := h j v hv
  rw [h1] at g1; cases g1
  rw [h3] at g3; cases g3
  exact g4
theorem cellP_list {row : List Value} {o n : Nat} {l : List Value} (hl : l.length = n) (h : ∀ j v, l[j]? = some v → row[o + j]? = some v) (k : VP) (hn : 0 < n) : cellP row o (some n) k = k (.agg ⟨l⟩) := by
  have hlen : o + n ≤ row.length := by
    have := h (n - 1) l[n - 1] (List.getElem?_eq_getElem (by omega))
    rcases Nat.lt_or_ge (o + (n - 1)) row.length with g | g
    · omega
    · rw [List.getElem?_eq_none g] at this; cases this
  have e : (row.drop o).take n = l := by
    apply List.ext_getElem?
    intro j
    by_cases hj : j < n
    · rw [List.getElem?_take, if_pos hj, List.getElem?_drop, h j l[j] (List.getElem?_eq_getElem (by omega)), List.getElem?_eq_getElem (by omega)]
    · rw [List.getElem?_take, if_neg hj, List.getElem?_eq_none (by omega)]
  rw [cellP_agg, e]; simp [hlen]
theorem cellP_3 {row : List Value} {o : Nat} {x y z : Value} (h0 : row[o]? = some x) (h1 : row[o + 1]? = some y) (h2 : row[o + 2]? = some z) (k : VP) : cellP row o (some 3) k = k (.agg ⟨[x, y, z]⟩) :=
  cellP_list (l := [x, y, z]) rfl (fun j v hv => by
    match j, hv with
    | 0, hv => simp at hv; subst hv; simpa using h0
    | 1, hv => simp at hv; subst hv; exact h1
    | 2, hv => simp at hv; subst hv; exact h2
    | j + 3, hv => simp at hv) k (by simp)
theorem cellP_lit {l : List Value} (k : VP) : cellP l 0 (some l.length) k = k (.agg ⟨l⟩) := by rw [cellP_agg]; simp
theorem cellP_lit2 (x y : Value) (k : VP) : cellP [x, y] 0 (some 2) k = k (.agg ⟨[x, y]⟩) := cellP_lit (l := [x, y]) k
theorem cellP_lit3 (x y z : Value) (k : VP) : cellP [x, y, z] 0 (some 3) k = k (.agg ⟨[x, y, z]⟩) := cellP_lit (l := [x, y, z]) k
theorem putL_lit2 (a b x y : Value) : putL [a, b] 0 [x, y] = [x, y] := rfl
theorem putL_lit3 (a b c x y z : Value) : putL [a, b, c] 0 [x, y, z] = [x, y, z] := rfl

/-! Numbers in memory. -/
def u32s (es : List Nat) : List Value := es.map fun (e : Nat) => Value.int .u32 (e : Int)
def i64s (xs : List Int) : List Value := xs.map fun x => Value.int .i64 x
def Small (es : List Nat) : Prop := ∀ e ∈ es, e < 4294967296
theorem u32s_get {es : List Nat} {i e : Nat} (h : es[i]? = some e) : (u32s es)[i]? = some (.int .u32 (e : Int)) := by simp [u32s, h]
theorem i64s_get {xs : List Int} {i : Nat} {x : Int} (h : xs[i]? = some x) : (i64s xs)[i]? = some (.int .i64 x) := by simp [i64s, h]
theorem u32s_length (es : List Nat) : (u32s es).length = es.length := by simp [u32s]
theorem i64s_length (xs : List Int) : (i64s xs).length = xs.length := by simp [i64s]
theorem Small.get {es : List Nat} (h : Small es) {i e : Nat} (he : es[i]? = some e) : e < 4294967296 := h e (List.mem_of_getElem? he)
end Go.Clo
