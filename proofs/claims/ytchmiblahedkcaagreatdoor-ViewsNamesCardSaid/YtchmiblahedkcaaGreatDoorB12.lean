/-
  Sets of strings: maps from strings to bool all of whose values are true.
-/
import Derived.Test.YtchmiblahedkcaaGreatDoorB7
import Derived.MapKept
set_option linter.all false
namespace Go.Clo

/-- Block r is a map whose keys are the strings of S, all with the value true. -/
def SetM (H : Heap) (r : Nat) (S : ByteArray → Bool) : Prop :=
  ∃ es c, getH H r = some (.map es c) ∧ (∀ x ∈ es, MapKept.IsKey .string x.key ∧ x.val = .bool true) ∧ ∀ s, S s = true ↔ ∃ x ∈ es, x.key = .string s
theorem SetM.ext {H : Heap} {nx r : Nat} {S : ByteArray → Bool} {H' : Heap} {nx' : Nat} (h : SetM H r S) (hr : r < nx) (e : Ext H nx H' nx') : SetM H' r S := by
  obtain ⟨es, c, h1, h2, h3⟩ := h
  exact ⟨es, c, by rw [e.get r hr]; exact h1, h2, h3⟩
theorem SetM.same {H H' : Heap} {r : Nat} {S : ByteArray → Bool} (h : SetM H r S) (e : getH H' r = getH H r) : SetM H' r S := by
  obtain ⟨es, c, h1, h2, h3⟩ := h
  exact ⟨es, c, by rw [e]; exact h1, h2, h3⟩
theorem SetM.congr {H : Heap} {r : Nat} {S S' : ByteArray → Bool} (h : SetM H r S) (e : ∀ s, S s = S' s) : SetM H r S' := by
  obtain ⟨es, c, h1, h2, h3⟩ := h
  exact ⟨es, c, h1, h2, fun s => by rw [← e s]; exact h3 s⟩
theorem SetM.nil {H : Heap} {r c : Nat} (h : getH H r = some (.map [] c)) : SetM H r fun _ => false :=
  ⟨[], c, h, by simp, fun s => by simp⟩
theorem SetM.find {es : List MapEntry} {S : ByteArray → Bool} (h2 : ∀ x ∈ es, MapKept.IsKey .string x.key ∧ x.val = .bool true) (h3 : ∀ s, S s = true ↔ ∃ x ∈ es, x.key = .string s) (s : ByteArray) :
    (S s = false ∧ Instr.findNow .string (.string s) es 0 = some none) ∨ (S s = true ∧ ∃ j e, Instr.findNow .string (.string s) es 0 = some (some (j, .bool true)) ∧ es[j]? = some e ∧ e.key = .string s) := by
  rcases MapKept.findNow_spec (d := .string) (k := .string s) trivial es 0 (fun x hx => (h2 x hx).1) with ⟨h, hn⟩ | ⟨j, e, h, hj, hk⟩
  · refine .inl ⟨?_, h⟩
    cases hS : S s with
    | false => rfl
    | true =>
      obtain ⟨x, hx, hxk⟩ := (h3 s).1 hS
      exact absurd hxk (hn x hx)
  · have hm := List.mem_of_getElem? hj
    refine .inr ⟨(h3 s).2 ⟨e, hm, hk⟩, j, e, ?_, hj, hk⟩
    rw [h, (h2 e hm).2, Nat.zero_add]
theorem SetM.lk {H : Heap} {r : Nat} {S : ByteArray → Bool} (h : SetM H r S) (s : ByteArray) (k : VP) : wLk .string (.bool false) (.map (some r)) (.string s) false H k = k (.bool (S s)) := by
  obtain ⟨es, c, h1, h2, h3⟩ := h
  unfold wLk
  rw [show keyKind .string (.string s) = true from rfl]
  simp only [cond_true]
  rw [getB_eq, h1]
  simp only [Option.elim_some]
  rcases SetM.find h2 h3 s with ⟨hS, hf⟩ | ⟨hS, j, e, hf, _⟩
  · rw [hf, hS]; rfl
  · rw [hf, hS]; rfl
theorem SetM.put {H : Heap} {nx r : Nat} {S : ByteArray → Bool} (h : SetM H r S) (s : ByteArray) {k : EP} (hk : ∀ b, SetM (hs H r (some b)) r (fun t => S t || decide (t = s)) → k undef (hs H r (some b)) nx) : wUpd .string (.map (some r)) (.string s) (.bool true) H nx k := by
  obtain ⟨es, c, h1, h2, h3⟩ := h
  unfold wUpd
  dsimp only
  rw [getB_eq, h1]
  simp only [Option.elim_some, updK]
  rw [show keyKind .string (.string s) = true from rfl]
  rcases SetM.find h2 h3 s with ⟨hS, hf⟩ | ⟨hS, j, e, hf, hj, hke⟩
  · rw [hf]
    simp only [cond_true]
    rw [spine_eq, forceN_eq, hsK_eq]
    refine hk _ ⟨_, _, getH_same _ _ _, ?_, fun t => ?_⟩
    · intro x hx
      rcases List.mem_append.1 hx with hx | hx
      · exact h2 x hx
      · rw [List.mem_singleton.1 hx]; exact ⟨trivial, rfl⟩
    · rw [Bool.or_eq_true, h3, decide_eq_true_eq]
      constructor
      · rintro (⟨x, hx, hxk⟩ | rfl)
        · exact ⟨x, List.mem_append_left _ hx, hxk⟩
        · exact ⟨_, List.mem_append_right _ (List.mem_singleton.2 rfl), rfl⟩
      · rintro ⟨x, hx, hxk⟩
        rcases List.mem_append.1 hx with hx | hx
        · exact .inl ⟨x, hx, hxk⟩
        · rw [List.mem_singleton.1 hx] at hxk
          injection hxk with hxk
          exact .inr hxk.symm
  · rw [hf]
    simp only [cond_true]
    rw [nth_eq, hj]
    simp only
    rw [spine_eq, hsK_eq, setNth_eq]
    have hjl := (List.getElem?_eq_some_iff.1 hj).1
    refine hk _ ⟨_, _, getH_same _ _ _, ?_, fun t => ?_⟩
    · intro x hx
      rcases List.mem_or_eq_of_mem_set hx with hx | rfl
      · exact h2 x hx
      · exact ⟨trivial, rfl⟩
    · rw [Bool.or_eq_true, h3, decide_eq_true_eq]
      constructor
      · rintro (⟨x, hx, hxk⟩ | rfl)
        · obtain ⟨i, hi, rfl⟩ := List.getElem_of_mem hx
          by_cases hij : j = i
          · subst hij
            refine ⟨_, List.mem_set hjl _, ?_⟩
            rw [List.getElem?_eq_getElem hi] at hj
            injection hj with hj
            rw [← hj] at hke
            rw [hxk] at hke
            exact hke.symm
          · refine ⟨es[i], ?_, hxk⟩
            have : (es.set j { key := .string s, val := .bool true, born := e.born })[i]? = some es[i] := by
              rw [List.getElem?_set, if_neg hij, List.getElem?_eq_getElem hi]
            exact List.mem_of_getElem? this
        · exact ⟨_, List.mem_set hjl _, rfl⟩
      · rintro ⟨x, hx, hxk⟩
        rcases List.mem_or_eq_of_mem_set hx with hx | rfl
        · exact .inl ⟨x, hx, hxk⟩
        · injection hxk with hxk
          exact .inr hxk.symm

/-! Slices of structures. -/
theorem flat_get {α : Type} {f : α → List Value} {sz : Nat} (hf : ∀ a, (f a).length = sz) : ∀ {xs : List α} {i : Nat} {a : α}, xs[i]? = some a → ∀ (j : Nat) (v : Value), (f a)[j]? = some v → (xs.flatMap f)[i * sz + j]? = some v
  | [], i, a, h, j, v, _ => by simp at h
  | x :: xs, 0, a, h, j, v, hv => by
    simp at h; subst h
    have hj := (List.getElem?_eq_some_iff.1 hv).1
    rw [List.flatMap_cons, Nat.zero_mul, Nat.zero_add, List.getElem?_append_left hj]
    exact hv
  | x :: xs, i + 1, a, h, j, v, hv => by
    have ih := flat_get hf (xs := xs) (i := i) (a := a) (by simpa using h) j v hv
    have e : (i + 1) * sz + j = sz + (i * sz + j) := by rw [Nat.add_mul, Nat.one_mul]; omega
    rw [List.flatMap_cons, e, List.getElem?_append_right (by rw [hf]; omega), hf, Nat.add_sub_cancel_left]
    exact ih
theorem Sl.elem {α : Type} {f : α → List Value} {sz : Nat} {H : Heap} {nx : Nat} {A : Option Addr} {xs : List α} (h : Sl H nx A (xs.flatMap f)) (hf : ∀ a, (f a).length = sz) (h0 : 0 < sz) {i : Nat} {a : α} (hi : xs[i]? = some a) :
    ∃ b o row, A = some ⟨b, o, none⟩ ∧ b < nx ∧ rowOf H b = some row ∧ (∀ (j : Nat) (v : Value), (f a)[j]? = some v → row[o + i * sz + j]? = some v) ∧ ∀ k : VP, cellP row (o + i * sz) (some sz) k = k (.agg ⟨f a⟩) := by
  obtain ⟨v0, hv0⟩ : ∃ v, (f a)[0]? = some v := ⟨_, List.getElem?_eq_getElem (by rw [hf]; exact h0)⟩
  have g0 := flat_get hf hi 0 v0 hv0
  obtain ⟨b, o, row, h1, h2, h3, h4⟩ := h.open (List.getElem?_eq_some_iff.1 g0).1
  have hget : ∀ (j : Nat) (v : Value), (f a)[j]? = some v → row[o + i * sz + j]? = some v := fun j v hv => by
    have := h4 _ _ (flat_get hf hi j v hv)
    rw [← Nat.add_assoc] at this
    exact this
  exact ⟨b, o, row, h1, h2, h3, hget, fun k => cellP_list (hf a) hget k h0⟩
theorem cellP_lit4 (x y z u : Value) (k : VP) : cellP [x, y, z, u] 0 (some 4) k = k (.agg ⟨[x, y, z, u]⟩) := cellP_lit (l := [x, y, z, u]) k
theorem cellP_lit5 (x y z u v : Value) (k : VP) : cellP [x, y, z, u, v] 0 (some 5) k = k (.agg ⟨[x, y, z, u, v]⟩) := cellP_lit (l := [x, y, z, u, v]) k
theorem wLd_4 (b o : Nat) (H : Heap) (k : VP) : wLd (.pointer (some ⟨b, o, none⟩)) (some 4) H k = ldP (getH H b) o (some 4) k := wLd_some b o 3 H k
theorem wLd_5 (b o : Nat) (H : Heap) (k : VP) : wLd (.pointer (some ⟨b, o, none⟩)) (some 5) H k = ldP (getH H b) o (some 5) k := wLd_some b o 4 H k
end Go.Clo
