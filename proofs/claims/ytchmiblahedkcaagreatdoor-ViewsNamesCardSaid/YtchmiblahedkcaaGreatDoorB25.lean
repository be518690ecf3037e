/-
  Contracts: views.New, the copy of a map of views, the names of the views, Drop of a view that is there.
-/
import Derived.Test.YtchmiblahedkcaaGreatDoorB18
import Derived.Test.YtchmiblahedkcaaGreatDoorB19
import Derived.Test.YtchmiblahedkcaaGreatDoorB24
set_option linter.all false
namespace Go.Proofs.YtchmiblahedkcaaGreatDoor
open Go.Clo

theorem wLd_1 (b o : Nat) (H : Heap) (k : VP) : wLd (.pointer (some ⟨b, o, none⟩)) (some 1) H k = ldP (getH H b) o (some 1) k := wLd_some b o 0 H k
theorem wLd_6 (b o : Nat) (H : Heap) (k : VP) : wLd (.pointer (some ⟨b, o, none⟩)) (some 6) H k = ldP (getH H b) o (some 6) k := wLd_some b o 5 H k
theorem cellP_11 (x : Value) (k : VP) : cellP [x] 0 (some 1) k = k (.agg ⟨[x]⟩) := cellP_lit (l := [x]) k
theorem cellP_12 (x y : Value) (k : VP) : cellP [x, y] 0 (some 1) k = k (.agg ⟨[x]⟩) := by rw [cellP_agg]; simp
theorem wBuild_v0 (a : Option Nat) (k : VP) : wBuild [.map none, .map none] [(0, 1), (1, 1)] [(0, .agg ⟨[.map a]⟩)] k = k (.agg ⟨[.map a, .map none]⟩) := spine_eq _ _
theorem wBuild_v2 (a b : Option Nat) (k : VP) : wBuild [.map none, .map none] [(0, 1), (1, 1)] [(0, .agg ⟨[.map a]⟩), (1, .map b)] k = k (.agg ⟨[.map a, .map b]⟩) := spine_eq _ _
theorem new6 (m : Option Nat) (H : Heap) (nx : Nat) : Ans Tryz.prog 6 [.agg ⟨[.map m]⟩] H nx fun r H' nx' => r = .agg ⟨[.map m, .map none]⟩ ∧ Ext H nx H' nx' := by
  refine spec6 ?_
  unfold F6
  simp only [W1]
  simp (disch := first|omega|assumption) only [W0, oneCells, Yld.val, Nat.reduceAdd, Nat.reduceMul, Nat.reduceLeDiff, wLd_1, cellP_11, wBuild_v0, putL_lit2, cellP_lit2]
  have x1 : Ext H nx (hs H nx (some (.cells [.map m] 0))) (nx + 1) := (Ext.refl _ _).new _ (Nat.le_refl _) (by omega)
  have x2 : Ext H nx (hs (hs H nx (some (.cells [.map m] 0))) (nx + 1) (some (.cells [.map none, .map none] 0))) (nx + 1 + 1) := x1.new _ (by omega) (by omega)
  exact x2.hs (by omega)
/-- A map of views, and its keys. -/
def MapOf (H : Heap) (nx : Nat) (L : Value) (ks : List ByteArray) : Prop :=
  (L = .map none ∧ ks = []) ∨ ∃ r es c, L = .map (some r) ∧ r < nx ∧ getH H r = some (.map es c) ∧ keysS es = some ks ∧ ∀ e ∈ es, viewV e.val = true
theorem MapOf.ext {H : Heap} {nx : Nat} {L : Value} {ks : List ByteArray} {H' : Heap} {nx' : Nat} (h : MapOf H nx L ks) (e : Ext H nx H' nx') : MapOf H' nx' L ks := by
  rcases h with h | ⟨r, es, c, h1, h2, h3, h4, h5⟩
  · exact .inl h
  · exact .inr ⟨r, es, c, h1, Nat.lt_of_lt_of_le h2 e.le, by rw [e.get r h2]; exact h3, h4, h5⟩
theorem keysS_unborn : ∀ es : List MapEntry, keysS (unborn es) = keysS es
  | [] => rfl
  | e :: es => by
    show (match keyS _, keysS (unborn es) with | some s, some l => some (s :: l) | _, _ => none) = (match keyS e, keysS es with | some s, some l => some (s :: l) | _, _ => none)
    rw [keysS_unborn es]
    rfl
theorem copied22 (m : Option Nat) (L : Value) (ks : List ByteArray) (H : Heap) (nx : Nat) (hm : MapOf H nx L ks) (hl : ks.length ≤ 1000) : Ans Tryz.prog 22 [.agg ⟨[.map m, L]⟩] H nx fun r H' nx' =>
    ∃ q es c, r = .map (some q) ∧ nx ≤ q ∧ q < nx' ∧ getH H' q = some (.map es c) ∧ keysS es = some ks ∧ (∀ e ∈ es, viewV e.val = true) ∧ Ext H nx H' nx' := by
  refine spec22 ?_
  unfold F22
  simp only [W1, dMmap]
  rcases hm with ⟨rfl, rfl⟩ | ⟨r, es, c, rfl, hr, hg, hk, hv⟩
  · simp (disch := first|omega|assumption) only [W0, oneCells, Yld.val, Nat.reduceAdd, Nat.reduceMul, Nat.reduceLeDiff]
    have x1 : Ext H nx (hs (hs H nx (some (.cells [.map m, .map none] 0))) (nx + 1) (some (.map [] 0))) (nx + 1 + 1) := ((Ext.refl _ _).new _ (Nat.le_refl _) (Nat.le_refl _)).new _ (by omega) (by omega)
    refine wCall_rule (Q := fun v H' nx' => H' = _ ∧ nx' = _) ⟨_, _, _, mcopy34_nil_cs (nx + 1) (blk := .map [] 0) _ _ (getH_same _ _ _), rfl, rfl⟩ ?_
    rintro _ _ _ ⟨rfl, rfl⟩
    exact ⟨_, [], 0, rfl, by omega, by omega, getH_same _ _ _, rfl, by simp, x1⟩
  · simp (disch := first|omega|assumption) only [W0, oneCells, Yld.val, Nat.reduceAdd, Nat.reduceMul, Nat.reduceLeDiff]
    have x1 : Ext H nx (hs (hs H nx (some (.cells [.map m, .map (some r)] 0))) (nx + 1) (some (.map [] 0))) (nx + 1 + 1) := ((Ext.refl _ _).new _ (Nat.le_refl _) (Nat.le_refl _)).new _ (by omega) (by omega)
    refine wCall_rule (Q := fun v H' nx' => H' = _ ∧ nx' = _) ⟨_, _, _, mcopy34_cs (d := nx + 1) (r := r) (nx := nx + 1 + 1) (getH_same _ _ _) (by rw [x1.get r hr]; exact hg) hk hl hv (by omega), rfl, rfl⟩ ?_
    rintro _ _ _ ⟨rfl, rfl⟩
    refine ⟨_, unborn es, unb, rfl, by omega, by omega, getH_same _ _ _, by rw [keysS_unborn]; exact hk, fun e he => ?_, x1.hs (by omega)⟩
    obtain ⟨e0, h0, rfl⟩ := List.mem_map.1 he
    exact hv e0 h0
theorem names14 (d : Value) (L : Value) (ks : List ByteArray) (H : Heap) (nx : Nat) (hm : MapOf H nx L ks) (hl : ks.length ≤ 1000) : Ans Tryz.prog 14 [.agg ⟨[d, L]⟩] H nx fun r H' nx' =>
    ∃ A, r = .slice A (sortB ks).length (sortB ks).length ∧ Sl H' nx' A (strs (sortB ks)) ∧ Ext H nx H' nx' := by
  rcases hm with ⟨rfl, rfl⟩ | ⟨r, es, c, rfl, hr, hg, hk, hv⟩
  · exact ⟨_, _, _, names14_nil_cs d H nx, none, rfl, Sl.nil _ _ _, Ext.refl _ _⟩
  · refine ⟨_, _, _, names14_cs d hg hk hl, ?_⟩
    cases hz : sortB ks with
    | nil => exact ⟨none, rfl, Sl.nil _ _ _, Ext.refl _ _⟩
    | cons z l =>
      refine ⟨some ⟨nx, 0, none⟩, ?_, sl_new (by show nx < nx + 1; omega) (getH_same _ _ _), (Ext.refl _ _).new _ (Nat.le_refl _) (by show nx ≤ nx + 1; omega)⟩
      rfl

/-! Lookups by name. -/
theorem find_in {es : List MapEntry} {ks : List ByteArray} (hk : keysS es = some ks) (s : ByteArray) :
    (s ∉ ks ∧ Instr.findNow .string (.string s) es 0 = some none) ∨ (s ∈ ks ∧ ∃ j e, Instr.findNow .string (.string s) es 0 = some (some (j, e.val)) ∧ es[j]? = some e ∧ ks[j]? = some s) := by
  obtain ⟨g1, _⟩ := keysS_map hk
  have key : ∀ (j : Nat) (e : MapEntry), es[j]? = some e → ∃ z, ks[j]? = some z ∧ e.key = .string z := fun j e he => by
    have := congrArg (fun l => l[j]?) g1
    simp only [List.getElem?_map, he, Option.map_some] at this
    cases hz : ks[j]? with
    | none => rw [hz] at this; cases this
    | some z => rw [hz] at this; exact ⟨z, rfl, by simpa using this⟩
  rcases MapKept.findNow_spec (d := .string) (k := .string s) trivial es 0 (fun x hx => by
    obtain ⟨j, hj⟩ := List.mem_iff_getElem?.1 hx
    obtain ⟨z, _, hz⟩ := key j x hj
    rw [hz]; trivial) with ⟨h, hn⟩ | ⟨j, e, h, hj, hke⟩
  · refine .inl ⟨fun hs => ?_, h⟩
    have : Value.string s ∈ es.map (·.key) := by rw [g1]; exact List.mem_map.2 ⟨s, hs, rfl⟩
    obtain ⟨e, he, hee⟩ := List.mem_map.1 this
    exact hn e he hee
  · obtain ⟨z, hz, hez⟩ := key j e hj
    rw [hke] at hez
    injection hez with hez
    subst hez
    exact .inr ⟨List.mem_of_getElem? hz, j, e, by rw [h, Nat.zero_add], hj, hz⟩
theorem keysS_erase : ∀ {es : List MapEntry} {ks : List ByteArray} (j : Nat), keysS es = some ks → keysS (es.eraseIdx j) = some (ks.eraseIdx j)
  | [], ks, j, h => by simp [keysS] at h; subst h; rfl
  | e :: es, ks, j, h => by
    simp only [keysS] at h
    cases h1 : keyS e with
    | none => rw [h1] at h; cases h
    | some s =>
      cases h2 : keysS es with
      | none => rw [h1, h2] at h; cases h
      | some l =>
        rw [h1, h2] at h
        simp only [Option.some.injEq] at h; subst h
        cases j with
        | zero => exact h2
        | succ j =>
          show keysS (e :: es.eraseIdx j) = some (s :: l.eraseIdx j)
          simp only [keysS, h1, keysS_erase j h2]
theorem keysS_app : ∀ {es : List MapEntry} {ks : List ByteArray} {e : MapEntry} {s : ByteArray}, keysS es = some ks → keyS e = some s → keysS (es ++ [e]) = some (ks ++ [s])
  | [], ks, e, s, h, h1 => by simp [keysS] at h; subst h; simp [keysS, h1]
  | x :: es, ks, e, s, h, h1 => by
    simp only [keysS] at h
    cases h3 : keyS x with
    | none => rw [h3] at h; cases h
    | some z =>
      cases h2 : keysS es with
      | none => rw [h3, h2] at h; cases h
      | some l =>
        rw [h3, h2] at h
        simp only [Option.some.injEq] at h; subst h
        show keysS (x :: (es ++ [e])) = some (z :: (l ++ [s]))
        simp only [keysS, h3, keysS_app h2 h1]
theorem erase_filter {s : ByteArray} : ∀ {ks : List ByteArray} {j : Nat}, ks.Nodup → ks[j]? = some s → ks.eraseIdx j = ks.filter fun z => !decide (z = s)
  | [], j, _, h => by simp at h
  | z :: ks, 0, hn, h => by
    simp at h; subst h
    have h1 := (List.nodup_cons.1 hn).1
    rw [List.filter_cons_of_neg (by simp), List.filter_eq_self.2 (fun y hy => by
      have : y ≠ z := fun e => h1 (e ▸ hy)
      simp [this])]
    rfl
  | z :: ks, j + 1, hn, h => by
    have h1 := (List.nodup_cons.1 hn)
    have h : ks[j]? = some s := by simpa using h
    have hz : z ≠ s := fun e => h1.1 (e ▸ List.mem_of_getElem? h)
    rw [List.filter_cons_of_pos (by simp [hz]), ← erase_filter h1.2 h]
    rfl
theorem viewV_iff {l : List Value} : viewV (.agg ⟨l⟩) = true ↔ l.length = 7 ∧ oneCells l = true := by
  constructor
  · intro h
    unfold viewV at h
    split at h
    · rename_i a b c d e f g he
      injection he with he
      injection he with he
      subst he
      exact ⟨rfl, h⟩
    · cases h
  · rintro ⟨h1, h2⟩
    match l, h1 with
    | [a, b, c, d, e, f, g], _ => exact h2
theorem viewV_inv {v : Value} (h : viewV v = true) : ∃ l, v = .agg ⟨l⟩ ∧ l.length = 7 ∧ oneCells l = true := by
  unfold viewV at h
  split at h
  · exact ⟨_, rfl, rfl, h⟩
  · cases h
theorem wLk_hit {H : Heap} {r c : Nat} {es : List MapEntry} {ks : List ByteArray} {s : ByteArray} (hg : getH H r = some (.map es c)) (hk : keysS es = some ks) (hin : s ∈ ks) (zero : Value) : ∃ e ∈ es, ∀ k, wLk .string zero (.map (some r)) (.string s) true H k = k (.tuple ⟨[e.val, .bool true]⟩) := by
  rcases find_in hk s with ⟨h, _⟩ | ⟨_, j, e, hf, hj, _⟩
  · exact absurd hin h
  · refine ⟨e, List.mem_of_getElem? hj, fun k => ?_⟩
    unfold wLk
    rw [show keyKind .string (.string s) = true from rfl]
    simp only [cond_true]
    rw [getB_eq, hg]
    simp only [Option.elim_some]
    rw [hf]
theorem wLk_miss {H : Heap} {nx : Nat} {L : Value} {ks : List ByteArray} {s : ByteArray} (hm : MapOf H nx L ks) (hni : s ∉ ks) (zero : Value) (k : VP) : wLk .string zero L (.string s) true H k = k (.tuple ⟨[zero, .bool false]⟩) := by
  rcases hm with ⟨rfl, rfl⟩ | ⟨r, es, c, rfl, hr, hg, hk, hv⟩
  · rfl
  · unfold wLk
    rw [show keyKind .string (.string s) = true from rfl]
    simp only [cond_true]
    rw [getB_eq, hg]
    simp only [Option.elim_some]
    rcases find_in hk s with ⟨_, hf⟩ | ⟨h, _⟩
    · rw [hf]
    · exact absurd h hni
theorem keysS_length {es : List MapEntry} {ks : List ByteArray} (h : keysS es = some ks) : es.length = ks.length := by
  have := congrArg List.length (keysS_map h).1
  simpa using this
theorem wLen_views {H : Heap} {nx : Nat} {L : Value} {ks : List ByteArray} (hm : MapOf H nx L ks) (k : VP) : wLen L 2 H k = k (.int .i64 (ks.length : Int)) := by
  rcases hm with ⟨rfl, rfl⟩ | ⟨r, es, c, rfl, hr, hg, hk, hv⟩
  · rfl
  · unfold wLen
    simp only []
    rw [getB_eq, hg]
    simp only [Option.elim_some]
    rw [forceN_eq, keysS_length hk]
    rfl
theorem wDel_hit {H : Heap} {nx q c : Nat} {es : List MapEntry} {ks : List ByteArray} {s : ByteArray} (hg : getH H q = some (.map es c)) (hk : keysS es = some ks) (hn : ks.Nodup) (hin : s ∈ ks) :
    ∃ es', (∀ e ∈ es', e ∈ es) ∧ keysS es' = some (ks.filter fun z => !decide (z = s)) ∧ ∀ k : EP, wDel .string (.map (some q)) (.string s) H nx k = k undef (hs H q (some (.map es' c))) nx := by
  rcases find_in hk s with ⟨h, _⟩ | ⟨_, j, e, hf, hj, hkj⟩
  · exact absurd hin h
  · refine ⟨es.eraseIdx j, fun e he => List.mem_of_mem_eraseIdx he, by rw [keysS_erase j hk, erase_filter hn hkj], fun k => ?_⟩
    unfold wDel
    rw [show keyKind .string (.string s) = true from rfl]
    simp only [cond_true]
    rw [getB_eq, hg]
    simp only [Option.elim_some]
    rw [hf]
    simp only []
    rw [spine_eq, hsK_eq]
theorem wUpd_miss {H : Heap} {nx q c : Nat} {es : List MapEntry} {ks : List ByteArray} {s : ByteArray} (hg : getH H q = some (.map es c)) (hk : keysS es = some ks) (hni : s ∉ ks) (v : Value) :
    ∃ c', ∀ k : EP, wUpd .string (.map (some q)) (.string s) v H nx k = k undef (hs H q (some (.map (es ++ [⟨.string s, v, c⟩]) c'))) nx := by
  rcases find_in hk s with ⟨_, hf⟩ | ⟨h, _⟩
  · refine ⟨cond (Nat.beq c 1000000000000) c (c + 1), fun k => ?_⟩
    unfold wUpd
    dsimp only
    rw [getB_eq, hg]
    simp only [Option.elim_some, updK]
    rw [show keyKind .string (.string s) = true from rfl, hf]
    simp only [cond_true]
    rw [spine_eq, forceN_eq, hsK_eq]
  · exact absurd h hni
end Go.Proofs.YtchmiblahedkcaaGreatDoor
