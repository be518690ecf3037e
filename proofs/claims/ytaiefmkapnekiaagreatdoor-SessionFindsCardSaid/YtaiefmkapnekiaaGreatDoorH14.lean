/-
  The executor as a claim: slices that may be empty, their rows; arrays in memory.
-/
import Derived.Test.YtaiefmkapnekiaaGreatDoorH13
set_option linter.all false
namespace Go.Clo

theorem rowAt_off {p : Program} {fits : TypeId → Bool} {d : Nat} {e : TypeId} {count off n : Nat} (h : rowAt p fits d e count off n = true) : off ≤ count * p.cellsOf e := by
  cases d with
  | zero => simp [rowAt] at h
  | succ d =>
    unfold rowAt at h
    simp only at h
    split at h
    · cases h
    · rename_i hs
      have h1 := Nat.div_add_mod off (p.cellsOf e)
      have h3 : off % p.cellsOf e < p.cellsOf e := Nat.mod_lt _ (by omega)
      rw [Bool.or_eq_true] at h
      rcases h with h | h
      · simp only [Bool.and_eq_true, beq_iff_eq, decide_eq_true_eq] at h
        obtain ⟨⟨hr, hi⟩, _⟩ := h
        rw [hr, Nat.add_zero, Nat.mul_comm] at h1
        rw [← h1]
        exact Nat.mul_le_mul_right _ (by omega)
      · simp only [Bool.and_eq_true, decide_eq_true_eq] at h
        have h2 : (off / p.cellsOf e + 1) * p.cellsOf e ≤ count * p.cellsOf e := Nat.mul_le_mul_right _ (by omega)
        rw [Nat.add_mul, Nat.one_mul, Nat.mul_comm] at h2
        omega
theorem liesAt_off {p : Program} {e : TypeId} {count off : Nat} : ∀ {d : Nat} {u : TypeId} {n : Nat}, liesAt p d e count off u n = true → off ≤ count * p.cellsOf e
  | 0, _, _, h => by simp [liesAt] at h
  | d + 1, u, n, h => by
    unfold liesAt at h
    rw [Bool.or_eq_true] at h
    rcases h with h | h
    · exact rowAt_off h
    · split at h
      · exact liesAt_off h
      · cases h

/-- A slice's row is there, though it may have no elements. -/
def Has (H : Heap) (nx : Nat) (A : Option Addr) : Prop := A = none ∨ ∃ b o row, A = some ⟨b, o, none⟩ ∧ b < nx ∧ rowOf H b = some row
theorem Has.ext {H : Heap} {nx : Nat} {A : Option Addr} {H' : Heap} {nx' : Nat} (h : Has H nx A) (e : Ext H nx H' nx') : Has H' nx' A := by
  rcases h with h | ⟨b, o, row, h1, h2, h3⟩
  · exact .inl h
  · exact .inr ⟨b, o, row, h1, Nat.lt_of_lt_of_le h2 e.le, by rw [e.row h2]; exact h3⟩

section
variable {X : Type} {enc : TypeId × Value → X} {P : Program} {w : World} {base : Nat} {spare : Nat → Bool} {held : Bool}

/-- A slice whose elements' cells are plain; its row is there. -/
theorem In.sliceH {α : Type} {f : α → List Value} {Pr : α → Prop} {sz : Nat} {F : FM} {H : Heap} {nx : Nat} (hi : In w F H nx) {t e : TypeId} {A : Option Addr} {len cap b0 fuel : Nat} {r : Reach} {x : DataW X × List MemPlace}
    (ht : P.underlying t = some (.slice e)) (hsz : P.cellsOf e = sz) (hf : ∀ a, (f a).length = sz) (hok : Cell.ok P w r b0 t (.slice A len cap)) (htr : DataW.trod enc P w base spare held fuel t [.slice A len cap] = some x)
    (helem : ∀ n cs y, DataW.trod enc P w base spare held n e cs = some y → ∃ a, f a = cs ∧ Pr a) (hflat : ∀ a, (f a).all flat1 = true) :
    ∃ (F' : FM) (H' : Heap) (nx' : Nat) (A' : Option Addr) (xs : List α), In w F' H' nx' ∧ F.le F' ∧ VR F' (.slice A' len cap) (.slice A len cap) ∧ xs.length = len ∧ (∀ a ∈ xs, Pr a) ∧ Sl H' nx' A' (xs.flatMap f) ∧ Ext H nx H' nx' ∧ len ≤ maxLen ∧ Has H' nx' A' := by
  rcases DataW.trod_slice ht htr with ⟨h0, _⟩ | ⟨a, len', cap', elems, rest, n, _, h0, _, _, hl, hm, hlen, hel, _, _⟩
  · simp at h0
    obtain ⟨rfl, rfl, rfl⟩ := h0
    exact ⟨F, H, nx, none, [], hi, fun _ _ h => h, .sliceN _ _, rfl, by simp, fun i v h => by simp at h, Ext.refl _ _, Nat.zero_le _, .inl rfl⟩
  · simp at h0
    obtain ⟨rfl, rfl, rfl⟩ := h0
    have hspot : a.spot = none := by
      simp only [Cell.ok, ht] at hok
      exact hok.2.2.2.1
    obtain ⟨c', ety, m, hb, hoff⟩ : ∃ c' ety m, w.heap[a.block]? = some (.cells c' ety m) ∧ a.off ≤ c'.size := by
      simp only [Cell.ok, ht] at hok
      obtain ⟨_, _, _, _, row, cells, hsh, hlies⟩ := hok
      unfold World.shape? at hsh
      split at hsh
      · rename_i cc ee mm hcell
        cases hsh
        refine ⟨_, _, _, hcell, ?_⟩
        have h1 := liesAt_off hlies
        exact Nat.le_trans h1 (Nat.div_mul_le_self _ _)
      · cases hsh
    obtain ⟨xs, hx1, hx2⟩ : ∃ xs : List α, xs.length = len ∧ ∀ i y, xs[i]? = some y → (c'.toList.drop (a.off + i * sz)).take sz = f y ∧ Pr y := by
      refine exists_list fun i hil => ?_
      have h1 := hel i hil
      rw [List.getElem?_eq_getElem (by omega)] at h1
      obtain ⟨cs, h2, h3⟩ := Option.bind_eq_some_iff.mp h1
      obtain ⟨y, rfl, hy⟩ := helem _ _ _ h3
      rw [hsz] at h2
      exact ⟨y, cells_at hb hspot h2, hy⟩
    have hPr : ∀ y ∈ xs, Pr y := fun y hy => by
      obtain ⟨i, hil, rfl⟩ := List.getElem_of_mem hy
      exact (hx2 i _ (List.getElem?_eq_getElem hil)).2
    have hrows : (c'.toList.drop a.off).take (len * sz) = xs.flatMap f := by
      rw [← hx1]
      exact flat_rows hf xs _ fun i y hy => by rw [List.drop_drop]; exact (hx2 i y hy).1
    have hlenF := flat_length hf xs
    have hle : a.off + (xs.flatMap f).length ≤ c'.size := by
      have h1 := congrArg List.length hrows
      simp only [List.length_take, List.length_drop, Array.length_toList] at h1
      omega
    have hvl : VL F (xs.flatMap f) ((c'.toList.drop a.off).take (xs.flatMap f).length) := by
      rw [hlenF, hx1, hrows]
      refine flatL_refl F _ ?_
      rw [List.all_eq_true]
      intro v hv
      obtain ⟨y, _, hy⟩ := List.mem_flatMap.mp hv
      exact List.all_eq_true.mp (hflat y) v hy
    have hrow : rowOf (hs H nx (some (.rom (xs.flatMap f)))) nx = some (xs.flatMap f) := by rw [rowOf, getH_same]; rfl
    refine ⟨_, _, _, some ⟨nx, 0, none⟩, xs, hi.row hb hle hvl, putF_le hi _, ?_, hx1, hPr, fun i v h => ⟨nx, 0, xs.flatMap f, rfl, by omega, hrow, by rw [Nat.zero_add]; exact h⟩, (Ext.refl H nx).new _ (Nat.le_refl _) (by omega), by omega, .inr ⟨nx, 0, _, rfl, by omega, hrow⟩⟩
    have := VR.slice (F := putF F nx ⟨a.block, a.off, (xs.flatMap f).length, 0, c'.size⟩) (b := nx) (o := 0) (n := len) (c := cap) (c' := cap) (t := ⟨a.block, a.off, (xs.flatMap f).length, 0, c'.size⟩) (by simp [putF]) (.inl rfl)
    have ha : a = ⟨a.block, a.off + 0, none⟩ := by cases a; simp at hspot; subst hspot; rfl
    rw [ha]; exact this
end

/-- Nothing is appended. -/
theorem src_none {H : Heap} {nx size : Nat} {A : Option Addr} {cap : Nat} (h : Has H nx A) : Src H size (.slice A 0 cap) 0 [] := by
  refine ⟨rfl, fun k => ?_, by simp⟩
  rcases h with rfl | ⟨b, o, row, rfl, _, hrow⟩
  · rfl
  · unfold rowOf at hrow
    cases hg : getH H b with
    | none => rw [hg] at hrow; cases hrow
    | some blk =>
      rw [hg] at hrow
      show rowK H ⟨b, o, none⟩ (0 * size) False k = k []
      unfold rowK
      simp only
      rw [getB_eq, hg, Nat.zero_mul]
      cases blk with
      | cells c sl => rfl
      | map es c => simp [Blk.row] at hrow
      | iter _ _ _ => simp [Blk.row] at hrow
      | rom c => rfl
theorem src_any {H : Heap} {nx size : Nat} {A : Option Addr} {m cap : Nat} {l : List Value} (h : Sl H nx A l) (h0 : Has H nx A) (hl : l.length = m * size) (hsz : 0 < size) : Src H size (.slice A m cap) m l := by
  cases m with
  | zero =>
    have : l = [] := by simpa using hl
    subst this
    exact src_none h0
  | succ m => exact src_sl h hl (Nat.mul_pos (by omega) hsz)
theorem wApp_zero {H : Heap} {nx size bytes : Nat} {x : Value} (hx : Src H size x 0 []) (hb : bytes ≤ 1000) (k : EP) : wApp (.slice none 0 0) x size bytes H nx k = k (.slice none 0 0) H nx := by
  unfold wApp appK
  rw [hx.len]
  dsimp only
  have h1 : (2 * (0 + 0) + 1000) * bytes ≤ 281474976710656 := by omega
  rw [forceN_eq, bltrue h1, bltrue (show 0 + 0 ≤ 1000000000 by omega)]
  simp only [Bool.and_self, cond_true]
  rw [hx.first]
  rfl
theorem wCopy_row {H : Heap} {nx b n cap size m sl : Nat} {row l : List Value} {x : Value} (hg : getH H b = some (.cells row sl)) (hx : Src H size x m l) (hm : m ≤ n) (ho : oneCells l = true) (hl : l.length ≤ row.length) (k : EP) :
    wCopy (.slice (some ⟨b, 0, none⟩) n cap) x size H nx k = k (.int .i64 (m : Int)) (hs H b (some (.cells (putL row 0 l) sl))) nx := by
  unfold wCopy
  rw [hx.len]
  dsimp only
  have e : Nat.min m n = m := Nat.min_eq_left hm
  rw [forceN_eq, e, hx.first, ho]
  simp only [cond_true]
  rw [putCK_eq, hg]
  simp only [stP, Nat.zero_add, hl, true_and]
  rfl

/-! Arrays of numbers in memory. -/
theorem putL_get {c : List Value} {o : Nat} {x : Value} (h : o < c.length) : putL c o [x] = c.set o x := by
  unfold putL
  rw [List.set_eq_take_append_cons_drop, if_pos h]
  simp
theorem set_u32s {l : List Nat} {i x : Nat} : (u32s l).set i (.int .u32 (x : Int)) = u32s (l.set i x) := by simp [u32s, List.map_set]
theorem set_i64s {l : List Int} {i : Nat} {x : Int} : (i64s l).set i (.int .i64 x) = i64s (l.set i x) := by simp [i64s, List.map_set]
theorem putL_u32s {l : List Nat} {i x : Nat} (h : i < l.length) : putL (u32s l) i [.int .u32 (x : Int)] = u32s (l.set i x) := by rw [putL_get (by rw [u32s_length]; exact h), set_u32s]
theorem putL_i64s {l : List Int} {i : Nat} {x : Int} (h : i < l.length) : putL (i64s l) i [.int .i64 x] = i64s (l.set i x) := by rw [putL_get (by rw [i64s_length]; exact h), set_i64s]
end Go.Clo
