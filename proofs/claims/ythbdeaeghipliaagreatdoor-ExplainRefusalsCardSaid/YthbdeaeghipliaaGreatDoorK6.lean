/-
  Contracts: the program's ParseVerdict (a map from names to indices; a loop over the parts).
  Plain: a text that is printed says what was printed, and the other way; slices.Equal over numbers.
  The example of the chapter (awake).
  Contract: the law ExplainRefusals, given its Great.
  MADE BY PROGRAM (wip/gen/gen.py): functions 5 as marked code, and their claims written out.
  Contract: the law ExplainRefusals.
-/
import Derived.Test.YthbdeaeghipliaaGreatDoorK4
import Derived.Test.YthbdeaeghipliaaGreatDoorK5
import Derived.KernelRfl
set_option linter.unusedSimpArgs false
set_option linter.unusedVariables false
set_option linter.unusedSectionVars false
namespace Go.Proofs.YthbdeaeghipliaaGreatDoor
open Go.Clo

theorem code_nodup {vs : List ByteArray} (h : codeOf vs = 0) : vs.Nodup := by
  unfold codeOf at h
  split at h
  · cases h
  · split at h
    · assumption
    · cases h
def entA (vs : List ByteArray) (j : Nat) : MapEntry := { key := .string (vs.getD j emp), val := .int .i64 (j : Int), born := j }
def entL (vs : List ByteArray) (i : Nat) : List MapEntry := (List.range i).map (entA vs)
theorem ent_get {vs : List ByteArray} {i j : Nat} (h : j < i) : (entL vs i)[j]? = some (entA vs j) := by simp [entL, h]
theorem ent_key {vs : List ByteArray} {i : Nat} : ∀ x ∈ entL vs i, MapKept.IsKey .string x.key := by
  intro x hx
  obtain ⟨j, _, rfl⟩ := List.mem_map.1 hx
  trivial
theorem find_ent (vs : List ByteArray) (i : Nat) (s : ByteArray) : (Instr.findNow .string (.string s) (entL vs i) 0 = some none ∧ ∀ j, j < i → vs.getD j emp ≠ s) ∨ ∃ j, j < i ∧ Instr.findNow .string (.string s) (entL vs i) 0 = some (some (j, .int .i64 (j : Int))) ∧ vs.getD j emp = s := by
  rcases MapKept.findNow_spec (d := .string) (k := .string s) trivial (entL vs i) 0 ent_key with ⟨h1, h2⟩ | ⟨j, e, h1, h2, h3⟩
  · exact .inl ⟨h1, fun j hj e => h2 (entA vs j) (List.mem_map.2 ⟨j, List.mem_range.2 hj, rfl⟩) (congrArg Value.string e)⟩
  · have hj : j < i := by have := (List.getElem?_eq_some_iff.1 h2).1; simpa [entL] using this
    rw [ent_get hj] at h2
    cases h2
    refine .inr ⟨j, hj, by simpa [entA] using h1, ?_⟩
    have h3' : Value.string (vs.getD j emp) = Value.string s := h3
    injection h3'
theorem ent_succ {vs : List ByteArray} {i : Nat} {z : ByteArray} (h : vs[i]? = some z) : entL vs i ++ [{ key := .string z, val := .int .i64 (i : Int), born := i }] = entL vs (i + 1) := by
  simp [entL, List.range_succ, entA, h]
theorem wUpd_new {H : Heap} {nx r clock : Nat} {es : List MapEntry} {s : ByteArray} {v : Value} (hg : getH H r = some (.map es clock)) (hf : Instr.findNow .string (.string s) es 0 = some none) (k : EP) :
    wUpd .string (.map (some r)) (.string s) v H nx k = k undef (hs H r (some (.map (es ++ [{ key := .string s, val := v, born := clock }]) (clock + 1)))) nx := by
  unfold wUpd
  dsimp only
  rw [getB_eq, hg]
  simp only [Option.elim_some, updK]
  rw [show keyKind .string (.string s) = true from rfl, hf]
  simp only [cond_true]
  rw [spine_eq, forceN_eq, hsK_eq]
theorem wLk_some {H : Heap} {r clock i : Nat} {es : List MapEntry} {s : ByteArray} {v z : Value} (hg : getH H r = some (.map es clock)) (hf : Instr.findNow .string (.string s) es 0 = some (some (i, v))) (k : VP) : wLk .string z (.map (some r)) (.string s) true H k = k (.tuple ⟨[v, .bool true]⟩) := by
  unfold wLk
  rw [show keyKind .string (.string s) = true from rfl]
  simp only [cond_true]
  rw [getB_eq, hg]
  simp only [Option.elim_some, hf]
theorem wLk_none {H : Heap} {r clock : Nat} {es : List MapEntry} {s : ByteArray} {z : Value} (hg : getH H r = some (.map es clock)) (hf : Instr.findNow .string (.string s) es 0 = some none) (k : VP) : wLk .string z (.map (some r)) (.string s) true H k = k (.tuple ⟨[z, .bool false]⟩) := by
  unfold wLk
  rw [show keyKind .string (.string s) = true from rfl]
  simp only [cond_true]
  rw [getB_eq, hg]
  simp only [Option.elim_some, hf]
theorem getD_some {vs : List ByteArray} {j : Nat} (h : j < vs.length) : vs[j]? = some (vs.getD j emp) := by
  rw [List.getD_eq_getElem?_getD, List.getElem?_eq_getElem h]; rfl
theorem find_idx {vs : List ByteArray} (hn : vs.Nodup) (s : ByteArray) : (Instr.findNow .string (.string s) (entL vs vs.length) 0 = some none ∧ idxOf vs s < 0) ∨ ∃ j, Instr.findNow .string (.string s) (entL vs vs.length) 0 = some (some (j, .int .i64 (idxOf vs s))) ∧ 0 ≤ idxOf vs s := by
  rcases find_ent vs vs.length s with ⟨h1, h2⟩ | ⟨j, hj, h1, h2⟩
  · refine .inl ⟨h1, ?_⟩
    rw [idxOf_neg]
    intro h
    obtain ⟨j, hj⟩ := List.mem_iff_getElem?.1 h
    have hjl := (List.getElem?_eq_some_iff.1 hj).1
    refine h2 j hjl ?_
    rw [getD_some hjl] at hj
    injection hj
  · have e : idxOf vs s = j := by
      refine idxOf_at (by rw [getD_some hj, h2]) fun k t hk ht he => ?_
      subst he
      have hkl : k < vs.length := by omega
      have := List.pairwise_iff_getElem.1 hn k j hkl hj hk
      apply this
      have a1 : vs[k]? = some vs[k] := List.getElem?_eq_getElem hkl
      have a2 : vs[j]? = some vs[j] := List.getElem?_eq_getElem hj
      rw [ht] at a1
      rw [getD_some hj, h2] at a2
      injection a1 with a1
      injection a2 with a2
      rw [← a1, ← a2]
    exact .inr ⟨j, by rw [e]; exact h1, by omega⟩
theorem lookup24 (q r c : Nat) (s : ByteArray) (vs : List ByteArray) (H : Heap) (nx : Nat) (hn : vs.Nodup) (hq : getH H q = some (.cells [.map (some r)] 0)) (hr : getH H r = some (.map (entL vs vs.length) c)) :
    Ans Tryz.prog 40 [.string s, .pointer (some ⟨q, 0, none⟩)] H nx fun v H' nx' => (idxOf vs s < 0 → .tuple ⟨[.int .i64 0, .bool false]⟩ = v) ∧ (0 ≤ idxOf vs s → .tuple ⟨[.int .i64 (idxOf vs s), .bool true]⟩ = v) ∧ H = H' ∧ nx = nx' := by
  refine spec40 ?_
  unfold F40
  rcases find_idx hn s with ⟨h1, h2⟩ | ⟨j, h1, h2⟩
  · simp (disch := first | omega | assumption | exact shr_lt (by assumption) | exact ndiff32 (by assumption) | exact below_lt (by omega) | fail) only [wExt_eq, wLd_none, ldP_cells, cellP_one, forceV_eq, Option.elim_some, List.getElem?_cons_zero, List.getElem?_cons_succ, and_true, and_self, hq, wLk_none hr h1]
    exact ⟨fun _ => trivial, fun h => by omega⟩
  · simp (disch := first | omega | assumption | exact shr_lt (by assumption) | exact ndiff32 (by assumption) | exact below_lt (by omega) | fail) only [wExt_eq, wLd_none, ldP_cells, cellP_one, forceV_eq, Option.elim_some, List.getElem?_cons_zero, List.getElem?_cons_succ, and_true, and_self, hq, wLk_some hr h1]
    exact ⟨fun h => by omega, fun _ => trivial⟩

theorem wBuild_0 (k : VP) : wBuild [.int .i64 0, .slice none 0 0, .slice none 0 0] [(0, 1), (1, 1), (2, 1)] [] k = k (.agg ⟨[.int .i64 0, .slice none 0 0, .slice none 0 0]⟩) := spine_eq _ _
theorem wBuild_1 (x : Int) (A : Option Addr) (n c : Nat) (k : VP) : wBuild [.int .i64 0, .slice none 0 0, .slice none 0 0] [(0, 1), (1, 1), (2, 1)] [(0, .int .i64 x), (1, .slice A n c)] k = k (.agg ⟨[.int .i64 x, .slice A n c, .slice none 0 0]⟩) := spine_eq _ _
theorem wBuild_2 (x : Int) (A : Option Addr) (n c : Nat) (k : VP) : wBuild [.int .i64 0, .slice none 0 0, .slice none 0 0] [(0, 1), (1, 1), (2, 1)] [(0, .int .i64 x), (2, .slice A n c)] k = k (.agg ⟨[.int .i64 x, .slice none 0 0, .slice A n c]⟩) := spine_eq _ _
theorem dMmap_none (k : Prop) : dMmap none k = k := rfl
theorem putL_lit1 (a x : Value) : putL [a] 0 [x] = [x] := rfl
theorem wSl_one {H : Heap} {b n : Nat} {c : List Value} (hg : getH H b = some (.cells c 0)) (hl : 1 ≤ n) (k : VP) : wSl (.slice (some ⟨b, 0, none⟩) n n) 1 (some (.int .i64 1)) none none H k = k (.slice (some ⟨b, if n = 1 then 0 else 1, none⟩) (n - 1) (n - 1)) := by
  by_cases h : n = 1
  · subst h
    unfold wSl
    dsimp only
    rw [getB_eq, hg]
    simp only [Option.elim_some, slB]
    rw [show looseA (.cells c 0) 0 1 1 = some false from rfl]
    exact force1_eq _ _
  · rw [if_neg h]
    exact wSl_lo (l := 1) hg (by omega) (.inl rfl) k

/-- The lists of a verdict of this kind. -/
def VOK (lo : Nat) (H : Heap) (nx : Nat) (kind : Int) (l : List Int) (P W : Value) : Prop :=
  (kind = 0 → AccL lo H nx P (i64s l) ∧ W = .slice none 0 0) ∧ (kind ≠ 0 → AccL lo H nx W (i64s l) ∧ P = .slice none 0 0)
theorem VOK.nil (lo : Nat) (H : Heap) (nx : Nat) : VOK lo H nx 0 [] (.slice none 0 0) (.slice none 0 0) := ⟨fun _ => ⟨AccL.zero _ _ _, rfl⟩, fun h => absurd rfl h⟩

set_option maxHeartbeats 4000000 in
theorem parse11 (A : Option Addr) (vs : List ByteArray) (s : ByteArray) (cap : Nat) (H : Heap) (nx : Nat) (hS : Sl H nx A (strs vs)) (hA0 : Has H nx A) (hcap : A = none → cap = 0) (hv : Short vs) (hlv : vs.length ≤ 1000) (hs : s.size ≤ 100000) :
    Ans Tryz.prog 15 [.slice A vs.length cap, .string s] H nx fun r H' nx' => (∃ P W, r = .tuple ⟨[.agg ⟨[.int .i64 (parseOf vs s).1, P, W]⟩, .int .i64 (parseOf vs s).2.2]⟩ ∧ VOK nx H' nx' (parseOf vs s).1 (parseOf vs s).2.1 P W) ∧ Ext H nx H' nx' := by
  refine spec15 ?_
  unfold F15
  have hX : Ext H nx (Go.Clo.hs H nx (some (.cells [.int .i64 0, .slice none 0 0, .slice none 0 0] 0))) (nx + 1) := (Ext.refl H nx).new _ (Nat.le_refl _) (by omega)
  have hg1 : getH (Go.Clo.hs H nx (some (.cells [.int .i64 0, .slice none 0 0, .slice none 0 0] 0))) nx = some (.cells [.int .i64 0, .slice none 0 0, .slice none 0 0] 0) := getH_same _ _ _
  simp (disch := first | omega | assumption | exact shr_lt (by assumption) | exact ndiff32 (by assumption) | exact below_lt (by omega) | fail) only [wLen_slice, wNew_eq, wLd_none, wLd_3, getH_same, forceV_eq, forceN_eq, Yld.val, Nat.zero_add, and_true, true_and, or_false, wSt_map, stP_cells, List.length_cons, List.length_nil, Nat.le_refl]
  generalize Go.Clo.hs H nx (some (.cells [.int .i64 0, .slice none 0 0, .slice none 0 0] 0)) = H1 at hX hg1 ⊢
  refine wCall_rule (checked14 A vs cap H1 (nx + 1) (hS.ext hX) (hA0.ext hX) hcap hv hlv) ?_
  rintro _ H2 n2 ⟨rfl, hE2⟩
  have hn2 := hE2.le
  have hE02 := hX.trans hE2
  have hg2 : getH H2 nx = some (.cells [.int .i64 0, .slice none 0 0, .slice none 0 0] 0) := by rw [hE2.get nx (by omega)]; exact hg1
  by_cases h0 : codeOf vs = 0
  · have d : decide (codeOf vs ≠ 0) = false := by simp [h0]
    have hnd := code_nodup h0
    simp (disch := first | omega | assumption | exact shr_lt (by assumption) | exact ndiff32 (by assumption) | exact below_lt (by omega) | fail) only [wBin_neq, wIf_bool, if_false, Bool.false_eq_true, d]
    refine wCall_rule (split21 s H2 n2 hs) ?_
    rintro _ H4 _ ⟨rfl, hg4, rfl, hE4⟩
    have hE04 := hE02.trans hE4
    have hpos := splitS_pos s
    have hple := splitS_le s
    obtain ⟨p0, tl, hp⟩ := split_open s
    have hltl : (splitS s).length = tl.length + 1 := by rw [hp]; rfl
    have hp0 : (splitS s)[0]? = some p0 := by rw [hp]; rfl
    have hk0 : (splitS s).headD emp = p0 := by rw [hp]; rfl
    have htl : (splitS s).tail = tl := by rw [hp]; rfl
    simp (disch := first | omega | assumption | exact shr_lt (by assumption) | exact ndiff32 (by assumption) | exact below_lt (by omega) | fail) only [wLd_none, Nat.add_zero, wIdx_slice, Nat.mul_one, Int.toNat_zero]
    refine wCall_rule (words15 H4 (n2 + 1 + 6)) ?_
    rintro _ _ _ ⟨rfl, rfl, rfl⟩
    have hX6 : Ext H4 (n2 + 1) (Go.Clo.hs H4 (n2 + 1 + 6) (some (.cells (strs wordL) 0))) (n2 + 1 + 6 + 1) := (Ext.refl _ _).new _ (by omega) (by omega)
    have hw : Sl (Go.Clo.hs H4 (n2 + 1 + 6) (some (.cells (strs wordL) 0))) (n2 + 1 + 6 + 1) (some ⟨n2 + 1 + 6, 0, none⟩) (strs wordL) := fun i u hu => ⟨n2 + 1 + 6, 0, strs wordL, rfl, Nat.lt_succ_self _, by simp [rowOf, getH_same, Blk.row], by simpa using hu⟩
    have hg6 : getH (Go.Clo.hs H4 (n2 + 1 + 6) (some (.cells (strs wordL) 0))) n2 = some (.cells (strs (splitS s)) 0) := by rw [hX6.get n2 (by omega)]; exact hg4
    generalize Go.Clo.hs H4 (n2 + 1 + 6) (some (.cells (strs wordL) 0)) = H6 at hX6 hw hg6 ⊢
    generalize hN : n2 + 1 + 6 + 1 = N at hX6 hw ⊢
    have hE06 := hE04.trans hX6
    have hgn : getH H6 nx = some (.cells [.int .i64 0, .slice none 0 0, .slice none 0 0] 0) := by rw [hX6.get nx (by omega), hE4.get nx (by omega)]; exact hg2
    have hl0 : (0 : Int) < ((splitS s).length : Int) := by omega
    simp (disch := first | omega | assumption | exact shr_lt (by assumption) | exact ndiff32 (by assumption) | exact below_lt (by omega) | fail) only [ldP_cells, cellP_one, Option.elim_some, true_and, hg6, strs_get hp0]
    refine wCall_rule (index22 _ wordL p0 4 H6 N hw (by decide)) ?_
    rintro _ _ _ ⟨rfl, rfl, rfl⟩
    simp (disch := first | omega | assumption | exact shr_lt (by assumption) | exact ndiff32 (by assumption) | exact below_lt (by omega) | fail) only [wBin_lss, wBin_eql, wIf_bool, wGuard_false, ldP_cells, cellP_one, Option.elim_some, true_and, hg4, strs_get hp0]
    by_cases hk : idxOf wordL p0 < 0
    · simp (disch := first | omega | assumption | exact shr_lt (by assumption) | exact ndiff32 (by assumption) | exact below_lt (by omega) | fail) only [List.getD_cons_zero, wIf_bool, oneCells, ldP_cells, getH_same, decide_true, if_true, Nat.zero_add, true_and, and_self, wSt_agg, stP_cells, List.length_cons, List.length_nil, Nat.le_refl, Nat.reduceAdd, wJoin_eq, hk, wBuild_0, hgn, putL_lit3, cellP_lit3]
      rw [parseOf_form h0 (.inl (by rw [hk0]; exact hk))]
      exact ⟨⟨_, _, rfl, VOK.nil _ _ _⟩, hE06.hs (Nat.le_refl _)⟩
    refine wJoin_rule (fun L H' nx' => L = [.bool (decide (0 ≤ idxOf (splitS s) emp))] ∧ H6 = H' ∧ N = nx') ?_ ?_
    · intro j hj
      simp (disch := first | omega | assumption | exact shr_lt (by assumption) | exact ndiff32 (by assumption) | exact below_lt (by omega) | fail) only [decide_false, if_false, Bool.false_eq_true, hk]
      refine wCall_rule (contains23 (some ⟨n2, 0, none⟩) (splitS s) emp (splitS s).length H6 N (fun i u hu => ⟨n2, 0, strs (splitS s), rfl, by omega, by simp [rowOf, hg6, Blk.row], by simpa using hu⟩) (by omega)) ?_
      rintro _ _ _ ⟨rfl, rfl, rfl⟩
      exact hj _ _ _ ⟨rfl, rfl, rfl⟩
    rintro _ _ _ ⟨rfl, rfl, rfl⟩
    by_cases hem : emp ∈ splitS s
    · have de : decide (0 ≤ idxOf (splitS s) emp) = true := by
        have : ¬ idxOf (splitS s) emp < 0 := fun h => idxOf_neg.1 h hem
        simp; omega
      simp (disch := first | omega | assumption | exact shr_lt (by assumption) | exact ndiff32 (by assumption) | exact below_lt (by omega) | fail) only [List.getD_cons_zero, wIf_bool, oneCells, ldP_cells, getH_same, if_true, Nat.zero_add, true_and, and_self, wSt_agg, stP_cells, List.length_cons, List.length_nil, Nat.le_refl, Nat.reduceAdd, de, wBuild_0, hgn, putL_lit3, cellP_lit3]
      rw [parseOf_form h0 (.inr hem)]
      exact ⟨⟨_, _, rfl, VOK.nil _ _ _⟩, hE06.hs (Nat.le_refl _)⟩
    have de : decide (0 ≤ idxOf (splitS s) emp) = false := by
      have := idxOf_neg.2 hem
      simp; omega
    have hne : ¬ (idxOf wordL ((splitS s).headD emp) < 0 ∨ emp ∈ splitS s) := by
      rw [hk0]
      exact fun h => h.elim hk hem
    simp (disch := first | omega | assumption | exact shr_lt (by assumption) | exact ndiff32 (by assumption) | exact below_lt (by omega) | fail) only [List.getD_cons_zero, wIf_bool, if_false, Bool.false_eq_true, de, dMmap_none, putL_lit1]
    refine wLoop_rule (fun m L H' nx' => ∃ i : Nat, m + i = vs.length ∧ L = [.int .i64 (i : Int)] ∧ getH H' N = some (.map (entL vs i) i) ∧ getH H' (N + 1) = some (.cells [.map (some N)] 0) ∧ Ext H6 N H' (N + 1 + 1) ∧ N + 1 + 1 = nx') ?_ (m := vs.length) ⟨0, by omega, rfl, ?_, getH_same _ _ _, ?_, rfl⟩
    rotate_left
    · rw [getH_ne _ (by omega), getH_ne _ (by omega), getH_same]; rfl
    · exact ((((Ext.refl H6 N).new _ (Nat.le_refl _) (by omega)).new _ (by omega) (Nat.le_succ _)).new _ (by omega) (Nat.le_refl _))
    rintro m ih L H14 _ ⟨i, hm, rfl, hmap, hbox, hE14, rfl⟩ hih
    have hE014 := hE06.trans hE14
    simp (disch := first | omega | assumption | exact shr_lt (by assumption) | exact ndiff32 (by assumption) | exact below_lt (by omega) | fail) only [List.getD_cons_zero, wBin_lss, wIf_bool, wBin_add64]
    by_cases hi : i < vs.length
    · have hi' : (i : Int) < (vs.length : Int) := by omega
      obtain ⟨b, o, row, rfl, hb, hrow, hget⟩ := (hS.ext hE014).open (i := i) (by rw [strs_length]; exact hi)
      have hv0 : vs[i]? = some vs[i] := List.getElem?_eq_getElem hi
      generalize hz : vs[i] = z at hv0
      have hf : Instr.findNow .string (.string z) (entL vs i) 0 = some none := by
        rcases find_ent vs i z with ⟨h1, _⟩ | ⟨j, hj, _, h2⟩
        · exact h1
        · exfalso
          have hjl : j < vs.length := by omega
          have := List.pairwise_iff_getElem.1 hnd j i hjl hi hj
          apply this
          have a2 : vs[j]? = some vs[j] := List.getElem?_eq_getElem hjl
          rw [getD_some hjl, h2] at a2
          injection a2 with a2
          rw [hz, ← a2]
      simp (disch := first | omega | assumption | exact shr_lt (by assumption) | exact ndiff32 (by assumption) | exact below_lt (by omega) | fail) only [wLd_none, ldP_cells, cellP_one, Option.elim_some, List.getElem?_cons_zero, decide_true, if_true, wIdx_slice, Int.toNat_natCast, Nat.mul_one, hi', ldP_row hrow, hget _ _ (strs_get hv0), hbox, wUpd_new hmap hf]
      exact hih (m - 1) _ _ _ (by omega) ⟨i + 1, by omega, by simp, by rw [getH_same, ent_succ hv0], by rw [getH_ne _ (by omega)]; exact hbox, hE14.hs (Nat.le_refl _), rfl⟩
    have hi' : ¬ (i : Int) < (vs.length : Int) := by omega
    have hil : i = vs.length := by omega
    subst hil
    have hX16 : Ext H14 (N + 1 + 1) (Go.Clo.hs H14 (N + 1 + 1) (some (.cells [] 0))) (N + 1 + 1 + 1) := (Ext.refl _ _).new _ (Nat.le_refl _) (by omega)
    have hg16 : getH (Go.Clo.hs H14 (N + 1 + 1) (some (.cells [] 0))) n2 = some (.cells (strs (splitS s)) 0) := by rw [hX16.get n2 (by omega), hE14.get n2 (by omega)]; exact hg6
    have hone : 1 ≤ (splitS s).length := by omega
    have hgl : getH (Go.Clo.hs H14 (N + 1 + 1) (some (.cells [] 0))) (N + 1 + 1) = some (.cells [] 0) := getH_same _ _ _
    simp (disch := first | omega | assumption | exact shr_lt (by assumption) | exact ndiff32 (by assumption) | exact below_lt (by omega) | fail) only [wLen_slice, decide_false, if_false, Bool.false_eq_true, hi', dBsl_none, wSl_one hg16 hone]
    have hg14 : getH H14 n2 = some (.cells (strs (splitS s)) 0) := by rw [hE14.get n2 (by omega)]; exact hg6
    have hT : Sl H14 (N + 1 + 1) (some ⟨n2, if (splitS s).length = 1 then 0 else 1, none⟩) (strs tl) := fun j u hu => by
      have hjl : j < tl.length := by
        have := (List.getElem?_eq_some_iff.1 hu).1
        rwa [strs_length] at this
      refine ⟨n2, 1, strs (splitS s), by rw [if_neg (by omega)], by omega, by simp [rowOf, hg14, Blk.row], ?_⟩
      rw [hp, Nat.add_comm]
      simpa [strs] using hu
    rw [hltl] at hT ⊢
    simp only [Nat.add_sub_cancel]
    generalize (some (Addr.mk n2 (if tl.length + 1 = 1 then 0 else 1) none)) = B2 at hT ⊢
    generalize Go.Clo.hs H14 (N + 1 + 1) (some (.cells [] 0)) = H16 at hX16 hg16 hgl ⊢
    refine wLoop_rule (fun m L H' nx' => ∃ (k : Nat) (v : Value) (zs : List Int), m + k = tl.length ∧ L = [v, .int .i64 (k : Int)] ∧ idxs vs (tl.take k) = some zs ∧ AccL (N + 1 + 1) H' nx' v (i64s zs) ∧ Ext H14 (N + 1 + 1) H' nx') ?_ (m := tl.length) ⟨0, _, [], by omega, rfl, rfl, .inr ⟨rfl, N + 1 + 1, Nat.le_refl _, by omega, rfl, hgl⟩, hX16⟩
    rintro m2 ih2 L2 H17 n17 ⟨k, v, zs, hm2, rfl, hzs, hacc, hE17⟩ hih2
    have hgn17 : getH H17 nx = some (.cells [.int .i64 0, .slice none 0 0, .slice none 0 0] 0) := by rw [hE17.get nx (by omega), hE14.get nx (by omega)]; exact hgn
    have hE017 := hE014.trans hE17
    simp (disch := first | omega | assumption | exact shr_lt (by assumption) | exact ndiff32 (by assumption) | exact below_lt (by omega) | fail) only [List.getD_cons_zero, List.getD_cons_succ, wBin_lss, wIf_bool, wBin_add64]
    by_cases hk2 : k < tl.length
    · have hk2' : (k : Int) < (tl.length : Int) := by omega
      have hx : tl[k]? = some tl[k] := List.getElem?_eq_getElem hk2
      generalize tl[k] = x at hx
      have hmem : x ∈ tl := List.mem_of_getElem? hx
      obtain ⟨b, o, row, rfl, hb, hrow, hget⟩ := (hT.ext hE17).open (i := k) (by rw [strs_length]; exact hk2)
      simp (disch := first | omega | assumption | exact shr_lt (by assumption) | exact ndiff32 (by assumption) | exact below_lt (by omega) | fail) only [wLd_none, cellP_one, Option.elim_some, decide_true, if_true, wIdx_slice, Int.toNat_natCast, Nat.mul_one, hk2', ldP_row hrow, hget _ _ (strs_get hx)]
      refine wCallV_rule (first := []) (cap := [.pointer (some ⟨N + 1, 0, none⟩)]) (lookup24 (N + 1) N vs.length x vs H17 n17 hnd (by rw [hE17.get _ (by omega)]; exact hbox) (by rw [hE17.get _ (by omega)]; exact hmap)) ?_
      rintro r _ _ ⟨hlo, hhi, rfl, rfl⟩
      by_cases hlt : idxOf vs x < 0
      · have := hlo hlt
        subst this
        simp (disch := first | omega | assumption | exact shr_lt (by assumption) | exact ndiff32 (by assumption) | exact below_lt (by omega) | fail) only [wIf_bool, wUn_not, wExt_eq, oneCells, ldP_cells, getH_same, Option.elim_some, List.getElem?_cons_zero, List.getElem?_cons_succ, if_true, Nat.zero_add, true_and, Bool.not_false, and_self, wSt_agg, stP_cells, List.length_cons, List.length_nil, Nat.le_refl, Nat.reduceAdd, wBuild_0, hgn17, putL_lit3, cellP_lit3]
        rw [parseOf_none h0 hne (by rw [htl]; exact idxs_bad hlt hmem)]
        exact ⟨⟨_, _, rfl, VOK.nil _ _ _⟩, hE017.hs (Nat.le_refl _)⟩
      · have := hhi (by omega)
        subst this
        simp (disch := first | omega | assumption | exact shr_lt (by assumption) | exact ndiff32 (by assumption) | exact below_lt (by omega) | fail) only [wIf_bool, wUn_not, wExt_eq, Option.elim_some, List.getElem?_cons_zero, List.getElem?_cons_succ, if_false, Bool.false_eq_true, Bool.not_true, dBsl_i64]
        have hXn : Ext H17 n17 (Go.Clo.hs H17 n17 (some (.cells [.int .i64 (idxOf vs x)] 0))) (n17 + 1) := (Ext.refl _ _).new _ (Nat.le_refl _) (by omega)
        refine wApp_accL (hacc.ext hXn) (src_new (getH_same _ _ _) rfl (by omega)) rfl (by omega) (by rw [i64s_length, idxs_length hzs, List.length_take]; omega) (hE17.trans hXn) (by have := hE17.le; omega) ?_
        intro v' H' hacc' hE' hsame
        refine hih2 (m2 - 1) _ _ _ (by omega) ⟨k + 1, v', zs ++ [idxOf vs x], by omega, by simp, ?_, by simpa [i64s] using hacc', hE'⟩
        rw [List.take_add_one, hx]
        exact idxs_snoc hlt hzs
    have hk2' : ¬ (k : Int) < (tl.length : Int) := by omega
    rw [List.take_of_length_le (by omega)] at hzs
    obtain ⟨B, rfl, _, _⟩ := hacc.sl
    by_cases hz : idxOf wordL p0 = 0
    · have dz : decide (idxOf wordL p0 = 0) = true := by simp [hz]
      simp (disch := first | omega | assumption | exact shr_lt (by assumption) | exact ndiff32 (by assumption) | exact below_lt (by omega) | fail) only [oneCells, ldP_cells, getH_same, decide_false, if_true, if_false, Bool.false_eq_true, Nat.zero_add, true_and, and_self, wSt_agg, stP_cells, List.length_cons, List.length_nil, Nat.le_refl, Nat.reduceAdd, hk2', dz, wBuild_1, hgn17, putL_lit3, cellP_lit3]
      rw [parseOf_some h0 hne (by rw [htl]; exact hzs), hk0]
      exact ⟨⟨_, _, rfl, fun _ => ⟨AccL.low (AccL.put hacc (by omega) _) (by omega), rfl⟩, fun h => absurd hz h⟩, hE017.hs (Nat.le_refl _)⟩
    · have dz : decide (idxOf wordL p0 = 0) = false := by simp [hz]
      simp (disch := first | omega | assumption | exact shr_lt (by assumption) | exact ndiff32 (by assumption) | exact below_lt (by omega) | fail) only [oneCells, ldP_cells, getH_same, decide_false, if_true, if_false, Bool.false_eq_true, Nat.zero_add, true_and, and_self, wSt_agg, stP_cells, List.length_cons, List.length_nil, Nat.le_refl, Nat.reduceAdd, hk2', dz, wBuild_2, hgn17, putL_lit3, cellP_lit3]
      rw [parseOf_some h0 hne (by rw [htl]; exact hzs), hk0]
      exact ⟨⟨_, _, rfl, fun h => absurd h hz, fun _ => ⟨AccL.low (AccL.put hacc (by omega) _) (by omega), rfl⟩⟩, hE017.hs (Nat.le_refl _)⟩
  · have d : decide (codeOf vs ≠ 0) = true := by simp [h0]
    simp (disch := first | omega | assumption | exact shr_lt (by assumption) | exact ndiff32 (by assumption) | exact below_lt (by omega) | fail) only [wBin_neq, wIf_bool, oneCells, ldP_cells, getH_same, if_true, Nat.zero_add, true_and, and_self, wSt_agg, stP_cells, List.length_cons, List.length_nil, Nat.le_refl, Nat.reduceAdd, d, wBuild_0, hg2, putL_lit3, cellP_lit3]
    rw [parseOf_code h0]
    exact ⟨⟨_, _, rfl, VOK.nil _ _ _⟩, hE02.hs (Nat.le_refl _)⟩
end Go.Proofs.YthbdeaeghipliaaGreatDoor

set_option linter.unusedSimpArgs false
set_option linter.unusedVariables false
set_option linter.unusedSectionVars false
namespace Go.Proofs.YthbdeaeghipliaaGreatDoor
open Go.Clo

theorem i64s_inj_get {l : List Int} {i : Nat} {x : Int} (h : l[i]? = some x) : (i64s l)[i]? = some (.int .i64 x) := i64s_get h

set_option maxHeartbeats 1000000 in
theorem equal13 (A B : Option Addr) (p q : List Int) (ca cb : Nat) (H : Heap) (nx : Nat) (hA : Sl H nx A (i64s p)) (hB : Sl H nx B (i64s q)) (hl : p.length ≤ 1000000) :
    Ans Tryz.prog 16 [.slice A p.length ca, .slice B q.length cb] H nx fun r H' nx' => .bool (decide (p = q)) = r ∧ H = H' ∧ nx ≤ nx' := by
  refine spec16 ?_
  unfold F16
  by_cases hne : p.length = q.length
  · have d : decide ((p.length : Int) ≠ (q.length : Int)) = false := by simp [hne]
    simp (disch := first | omega | assumption | exact shr_lt (by assumption) | exact ndiff32 (by assumption) | exact below_lt (by omega) | fail) only [wBin_neq, wIf_bool, wLen_slice, forceV_eq, forceN_eq, if_false, Bool.false_eq_true, and_true, or_false, and_self, Nat.le_refl, d]
    refine wLoop_rule (fun m L H' nx' => ∃ i : Nat, m + i = p.length ∧ L = [.int .i64 (i : Int)] ∧ (∀ (j : Nat), j < i → p[j]? = q[j]?) ∧ H = H' ∧ nx ≤ nx') ?_ (m := p.length) ⟨0, by omega, rfl, fun j hj => by omega, rfl, Nat.le_refl _⟩
    rintro m ih L _ n1 ⟨i, hm, rfl, hst, rfl, hn1⟩ hih
    simp (disch := first | omega | assumption | exact shr_lt (by assumption) | exact ndiff32 (by assumption) | exact below_lt (by omega) | fail) only [List.getD_cons_zero, wBin_lss, wIf_bool, true_and, wBin_add64]
    by_cases hi : i < p.length
    · have hi' : (i : Int) < (p.length : Int) := by omega
      have hi2 : (i : Int) < (q.length : Int) := by omega
      obtain ⟨b, o, row, rfl, hb, hrow, hget⟩ := hA.open (i := i) (by rw [i64s_length]; exact hi)
      obtain ⟨b2, o2, row2, rfl, hb2, hrow2, hget2⟩ := hB.open (i := i) (by rw [i64s_length]; omega)
      have hx : p[i]? = some p[i] := List.getElem?_eq_getElem hi
      have hy : q[i]? = some (q[i]'(by omega)) := List.getElem?_eq_getElem (by omega)
      generalize p[i] = x at hx
      generalize (q[i]'(by omega)) = y at hy
      by_cases hxy : x = y
      · have d2 : decide (x ≠ y) = false := by simp [hxy]
        simp (disch := first | omega | assumption | exact shr_lt (by assumption) | exact ndiff32 (by assumption) | exact below_lt (by omega) | fail) only [wBin_neq, wIf_bool, wLd_none, cellP_one, Option.elim_some, decide_true, if_true, if_false, Bool.false_eq_true, true_and, wIdx_slice, Int.toNat_natCast, Nat.mul_one, hi', ldP_row hrow, ldP_row hrow2, hget _ _ (i64s_get hx), hget2 _ _ (i64s_get hy), d2]
        exact hih (m - 1) _ _ _ (by omega) ⟨i + 1, by omega, by simp, fun j hj => by
          by_cases hji : j = i
          · subst hji; rw [hx, hy, hxy]
          · exact hst j (by omega), rfl, by omega⟩
      · have d2 : decide (x ≠ y) = true := by simp [hxy]
        simp (disch := first | omega | assumption | exact shr_lt (by assumption) | exact ndiff32 (by assumption) | exact below_lt (by omega) | fail) only [wBin_neq, wIf_bool, wLd_none, cellP_one, Option.elim_some, decide_true, if_true, true_and, wIdx_slice, Int.toNat_natCast, Nat.mul_one, hi', ldP_row hrow, ldP_row hrow2, hget _ _ (i64s_get hx), hget2 _ _ (i64s_get hy), d2]
        refine ⟨?_, by omega⟩
        have : p ≠ q := fun e => by
          subst e
          rw [hx] at hy
          injection hy with hy
          exact hxy hy
        simp [this]
    · have hi' : ¬ (i : Int) < (p.length : Int) := by omega
      simp (disch := first | omega | assumption | exact shr_lt (by assumption) | exact ndiff32 (by assumption) | exact below_lt (by omega) | fail) only [decide_false, if_false, Bool.false_eq_true, hi']
      refine ⟨?_, hn1⟩
      have : p = q := List.ext_getElem? fun j => by
        by_cases hj : j < i
        · exact hst j hj
        · rw [List.getElem?_eq_none (by omega), List.getElem?_eq_none (by omega)]
      simp [this]
  · have d : decide ((p.length : Int) ≠ (q.length : Int)) = true := by simp; omega
    have : p ≠ q := fun e => hne (by rw [e])
    simp (disch := first | omega | assumption | exact shr_lt (by assumption) | exact ndiff32 (by assumption) | exact below_lt (by omega) | fail) only [wBin_neq, wIf_bool, wLen_slice, forceV_eq, forceN_eq, if_true, and_true, or_false, and_self, Nat.le_refl, d]
    simp [this]

/-! Blanks. -/
theorem join_split : ∀ {l : List UInt8} {h : List UInt8} {t : List (List UInt8)}, splitL l = h :: t → h ++ Lib.joinTail [32] t = l
  | [], h, t, e => by
    cases e; rfl
  | c :: r, h, t, e => by
    rw [splitL] at e
    by_cases hc : c = 32
    · rw [if_pos hc] at e
      cases hr : splitL r with
      | nil => have := splitL_length r; rw [hr] at this; simp at this
      | cons a b =>
        rw [hr] at e
        cases e
        have := join_split hr
        simp only [Lib.joinTail, List.map_cons, List.flatten_cons] at this ⊢
        rw [hc, ← this]
        simp
    · rw [if_neg hc] at e
      cases hr : splitL r with
      | nil => have := splitL_length r; rw [hr] at this; simp at this
      | cons a b =>
        rw [hr] at e
        cases e
        have := join_split hr
        rw [List.cons_append, this]
theorem split_join : ∀ {zs : List (List UInt8)} {w : List UInt8}, (∀ c ∈ w, c ≠ 32) → (∀ z ∈ zs, ∀ c ∈ z, c ≠ 32) → splitL (w ++ Lib.joinTail [32] zs) = w :: zs
  | [], w, hw, _ => by
    simp only [Lib.joinTail, List.map_nil, List.flatten_nil, List.append_nil]
    exact splitL_last hw
  | z :: zs, w, hw, hz => by
    have e : w ++ Lib.joinTail [32] (z :: zs) = w ++ 32 :: (z ++ Lib.joinTail [32] zs) := by simp [Lib.joinTail]
    rw [e, splitL_at hw, split_join (hz z (by simp)) (fun y hy => hz y (List.mem_cons_of_mem _ hy))]
theorem map_data (zs : List ByteArray) : (zs.map (·.data.toList)).map mkB = zs := by
  rw [List.map_map]
  conv => rhs; rw [← List.map_id zs]
  apply List.map_congr_left
  intro z _
  exact mkB_of z
def NoBlank (s : ByteArray) : Prop := ∀ c ∈ s.data.toList, c ≠ 32
theorem splitS_text {w : ByteArray} {zs : List ByteArray} (hw : NoBlank w) (hz : ∀ z ∈ zs, NoBlank z) : splitS (w ++ catS zs) = w :: zs := by
  unfold splitS
  rw [ByteArray.data_append, Array.toList_append, catS_data, split_join hw (fun y hy => by
    obtain ⟨z, h1, rfl⟩ := List.mem_map.1 hy
    exact hz z h1), List.map_cons, mkB_of, map_data]
theorem text_split {s w : ByteArray} {zs : List ByteArray} (h : splitS s = w :: zs) : w ++ catS zs = s := by
  unfold splitS at h
  cases hl : splitL s.data.toList with
  | nil => rw [hl] at h; cases h
  | cons a b =>
    rw [hl] at h
    cases h
    have e := join_split hl
    apply bytes_eq
    rw [ByteArray.toList_eq, ByteArray.toList_eq, ByteArray.data_append, Array.toList_append, catS_data, mkB_data, ← e]
    congr 2
    rw [List.map_map]
    conv => rhs; rw [← List.map_id b]
    apply List.map_congr_left
    intro z _
    exact mkB_data z

/-! Valid names have no blanks. -/
theorem name_byte {s : ByteArray} (h : NameOK s) {i : Nat} {c : UInt8} (hc : s[i]? = some c) : c ≠ 32 := by
  intro e
  subst e
  rcases h.2.2 i _ hc with h | ⟨_, h⟩
  · revert h; decide
  · revert h; decide
theorem valid_noblank {s : ByteArray} (h : validB s = true) : NoBlank s ∧ s ≠ emp := by
  unfold validB at h
  have h : NameOK (strip s) := by simpa using h
  have hpos : 1 ≤ s.size := Nat.le_trans h.1 (strip_size s)
  refine ⟨fun c hc => ?_, fun e => by rw [e] at hpos; revert hpos; decide⟩
  obtain ⟨i, hi⟩ := List.mem_iff_getElem?.1 hc
  have hlt := (List.getElem?_eq_some_iff.1 hi).1
  rw [data_size] at hlt
  by_cases ht : Tail s
  · have he : strip s = s.extract 0 (s.size - 2) := if_pos ht
    rw [he] at h
    obtain ⟨a, b, h2, ha, hb, q1, q2, q3⟩ := ht
    rw [byte_list] at ha hb
    by_cases h1 : i < s.size - 2
    · refine name_byte h (i := i) ?_
      rw [byte_list, extract_mk, mkB_data, List.getElem?_take, if_pos (by omega), List.getElem?_drop, Nat.zero_add]
      exact hi
    · by_cases h3 : i = s.size - 2
      · rw [h3, ha] at hi
        injection hi with hi
        intro e
        rw [← hi] at e
        rw [e] at q1
        revert q1; decide
      · have h4 : i = s.size - 1 := by omega
        rw [h4, hb] at hi
        injection hi with hi
        intro e
        rw [← hi] at e
        rw [e] at q2
        revert q2; decide
  · have he : strip s = s := if_neg ht
    rw [he] at h
    exact name_byte h (by rw [byte_list]; exact hi)
theorem code_valid {vs : List ByteArray} (h : codeOf vs = 0) : ∀ s ∈ vs, validB s = true := by
  unfold codeOf at h
  split at h
  · cases h
  · rename_i hn
    intro s hs
    cases hv : validB s with
    | true => rfl
    | false => exact absurd ⟨s, hs, hv⟩ hn
theorem code_of {vs : List ByteArray} (h : ∀ s ∈ vs, validB s = true) (hn : vs.Nodup) : codeOf vs = 0 := by
  unfold codeOf
  rw [if_neg, if_pos hn]
  rintro ⟨s, h1, h2⟩
  rw [h s h1] at h2; cases h2
theorem word_open {p0 : ByteArray} (h : ¬ idxOf wordL p0 < 0) : wordL.getD (idxOf wordL p0).toNat ⟨#[]⟩ = p0 ∧ idxOf wordL p0 ≤ 3 := by
  have hm : p0 ∈ wordL := by
    by_cases hm : p0 ∈ wordL
    · exact hm
    · exact absurd (idxOf_neg.2 hm) h
  have hlt : wordL.findIdx (fun t => decide (t = p0)) < wordL.length := List.findIdx_lt_length.2 ⟨p0, hm, by simp⟩
  rw [idxOf_yes hm, Int.toNat_natCast]
  have := List.findIdx_getElem (w := hlt)
  simp only [decide_eq_true_eq] at this
  refine ⟨?_, by have : wordL.length = 4 := rfl; omega⟩
  rw [List.getD_eq_getElem?_getD, List.getElem?_eq_getElem hlt, this]; rfl
theorem pick_idx {vs : List ByteArray} (hn : vs.Nodup) {i : Int} {z : ByteArray} (h : pick vs i = some z) : idxOf vs z = i := by
  unfold pick at h
  split at h
  · rename_i h0
    have hl := (List.getElem?_eq_some_iff.1 h).1
    have : idxOf vs z = (i.toNat : Nat) := idxOf_at h fun j t hj ht he => by
      subst he
      have hjl : j < vs.length := by omega
      have := List.pairwise_iff_getElem.1 hn j i.toNat hjl hl hj
      apply this
      rw [List.getElem?_eq_getElem hjl] at ht
      rw [List.getElem?_eq_getElem hl] at h
      injection ht with ht
      injection h with h
      rw [ht, h]
    rw [this]; omega
  · cases h
theorem idx_pick {vs : List ByteArray} {s : ByteArray} (h : ¬ idxOf vs s < 0) : pick vs (idxOf vs s) = some s := by
  have hm : s ∈ vs := by
    by_cases hm : s ∈ vs
    · exact hm
    · exact absurd (idxOf_neg.2 hm) h
  have hlt : vs.findIdx (fun t => decide (t = s)) < vs.length := List.findIdx_lt_length.2 ⟨s, hm, by simp⟩
  unfold pick
  rw [if_pos (by omega), idxOf_yes hm, Int.toNat_natCast, List.getElem?_eq_getElem hlt]
  have := List.findIdx_getElem (w := hlt)
  simp only [decide_eq_true_eq] at this
  rw [this]
theorem list_idxs {vs : List ByteArray} (hn : vs.Nodup) : ∀ {l : List Int} {zs : List ByteArray}, listOf vs l = some zs → idxs vs zs = some l
  | [], zs, h => by cases h; rfl
  | i :: r, zs, h => by
    unfold listOf at h
    cases hp : pick vs i with
    | none => rw [hp] at h; cases h
    | some y =>
      rw [hp] at h
      obtain ⟨ys, h1, rfl⟩ := Option.map_eq_some_iff.1 h
      have e := pick_idx hn hp
      have h0 : ¬ i < 0 := fun h => by unfold pick at hp; rw [if_neg (by omega)] at hp; cases hp
      rw [idxs, if_neg (by rw [e]; exact h0), list_idxs hn h1, e]; rfl
theorem idxs_list {vs : List ByteArray} : ∀ {zs : List ByteArray} {l : List Int}, idxs vs zs = some l → listOf vs l = some zs
  | [], zs, h => by cases h; rfl
  | s :: r, zs, h => by
    unfold idxs at h
    by_cases hp : idxOf vs s < 0
    · rw [if_pos hp] at h; cases h
    · rw [if_neg hp] at h
      obtain ⟨ys, h1, rfl⟩ := Option.map_eq_some_iff.1 h
      rw [listOf, idx_pick hp]
      simp only
      rw [idxs_list h1]; rfl
theorem word_blank : ∀ w ∈ wordL, NoBlank w ∧ w ≠ emp := by
  intro w hw
  simp only [wordL, List.mem_cons, List.not_mem_nil, or_false] at hw
  rcases hw with rfl | rfl | rfl | rfl <;> exact ⟨by unfold NoBlank; decide, by decide⟩
theorem word_idx {n : Nat} (h : n < 4) : idxOf wordL (wordL.getD n ⟨#[]⟩) = (n : Int) := by
  have key : ∀ j : Nat, j < 4 → ∀ n : Nat, n < 4 → j < n → wordL.getD j ⟨#[]⟩ ≠ wordL.getD n ⟨#[]⟩ := by decide
  have hl : wordL.length = 4 := rfl
  refine idxOf_at ?_ fun j t hj ht e => ?_
  · rw [List.getD_eq_getElem?_getD, List.getElem?_eq_getElem (by omega)]; rfl
  · refine key j (by omega) n h hj ?_
    rw [List.getD_eq_getElem?_getD, ht, ← e]; rfl
theorem word_mem {n : Nat} (h : n < 4) : wordL.getD n ⟨#[]⟩ ∈ wordL := by
  match n, h with
  | 0, _ => simp [wordL]
  | 1, _ => simp [wordL]
  | 2, _ => simp [wordL]
  | 3, _ => simp [wordL]
/-- A printed verdict is restored from its text. -/
theorem parse_text {vs : List ByteArray} {kind : Int} {l : List Int} (h : (textOf vs kind l).2 = 0) : parseOf vs (textOf vs kind l).1 = (kind, l, 0) ∧ ∃ zs, listOf vs l = some zs ∧ 0 ≤ kind ∧ kind ≤ 3 ∧ (textOf vs kind l).1 = wordL.getD kind.toNat ⟨#[]⟩ ++ catS zs := by
  by_cases h0 : codeOf vs = 0
  · by_cases hk : kind < 0 ∨ 3 < kind
    · rw [textOf_kind h0 hk] at h; cases h
    · cases hl : listOf vs l with
      | none => rw [textOf_none h0 hk hl] at h; cases h
      | some zs =>
        rw [textOf_some h0 hk hl]
        have hkn : kind.toNat < 4 := by omega
        obtain ⟨hw1, hw2⟩ := word_blank _ (word_mem hkn)
        have hz : ∀ z ∈ zs, NoBlank z ∧ z ≠ emp := fun z hz => valid_noblank (code_valid h0 z (listOf_mem hl z hz))
        have hs := splitS_text hw1 (fun z h => (hz z h).1)
        refine ⟨?_, zs, rfl, by omega, by omega, rfl⟩
        have hwi := word_idx hkn
        have e : parseOf vs (wordL.getD kind.toNat ⟨#[]⟩ ++ catS zs) = _ := parseOf_some (l := l) h0 (by
          rw [hs]
          rintro (h | h)
          · rw [List.headD_cons, hwi] at h; omega
          · rcases List.mem_cons.1 h with h | h
            · exact hw2 h.symm
            · exact (hz _ h).2 rfl) (by rw [hs, List.tail_cons]; exact list_idxs (code_nodup h0) hl)
        rw [e, hs, List.headD_cons, hwi]
        congr 1
        omega
  · rw [textOf_code h0] at h; exact absurd h h0
/-- A parsed text is printed again. -/
theorem text_parse {vs : List ByteArray} {s : ByteArray} (h : (parseOf vs s).2.2 = 0) : textOf vs (parseOf vs s).1 (parseOf vs s).2.1 = (s, 0) ∧ (parseOf vs s).2.1.length ≤ s.size := by
  by_cases h0 : codeOf vs = 0
  · by_cases hk : idxOf wordL ((splitS s).headD emp) < 0 ∨ emp ∈ splitS s
    · rw [parseOf_form h0 hk] at h; cases h
    · cases hl : idxs vs (splitS s).tail with
      | none => rw [parseOf_none h0 hk hl] at h; cases h
      | some l =>
        rw [parseOf_some h0 hk hl]
        obtain ⟨p0, tl, hp⟩ := split_open s
        rw [hp, List.headD_cons] at hk ⊢
        rw [hp, List.tail_cons] at hl
        have hk1 : ¬ idxOf wordL p0 < 0 := fun h => hk (.inl h)
        obtain ⟨hw, h3⟩ := word_open hk1
        constructor
        · rw [textOf_some h0 (by omega) (idxs_list hl), hw, text_split hp]
        · have h1 := splitS_le s
          rw [hp, List.length_cons] at h1
          rw [idxs_length hl]; omega
  · rw [parseOf_code h0] at h; exact absurd h h0
theorem parse_size {vs : List ByteArray} (s : ByteArray) : (parseOf vs s).2.1.length ≤ s.size := by
  by_cases h : (parseOf vs s).2.2 = 0
  · exact (text_parse h).2
  · by_cases h0 : codeOf vs = 0
    · by_cases hk : idxOf wordL ((splitS s).headD emp) < 0 ∨ emp ∈ splitS s
      · rw [parseOf_form h0 hk]; simp
      · cases hl : idxs vs (splitS s).tail with
        | none => rw [parseOf_none h0 hk hl]; simp
        | some l => rw [parseOf_some h0 hk hl] at h; exact absurd rfl h
    · rw [parseOf_code h0]; simp
end Go.Proofs.YthbdeaeghipliaaGreatDoor

set_option linter.unusedSimpArgs false
set_option linter.unusedVariables false
set_option linter.unusedSectionVars false
namespace Go.Proofs.YthbdeaeghipliaaGreatDoor
open Go.Clo

def xyz : List ByteArray := [⟨#[120]⟩, ⟨#[121]⟩, ⟨#[122]⟩]
theorem valid_one {c : UInt8} (h : letterB c = true) : validB ⟨#[c]⟩ = true := by
  have hn : NameOK (strip ⟨#[c]⟩) := by
    rw [strip_short (by show ¬ 2 < 1; omega)]
    refine ⟨by show 1 ≤ 1; omega, by show 1 ≤ 16; omega, fun i d hd => ?_⟩
    rw [byte_list] at hd
    match i, hd with
    | 0, hd => cases hd; exact .inl h
    | i + 1, hd => simp at hd
  unfold validB
  simpa using hn
theorem xyz_code : codeOf xyz = 0 := code_of (fun s hs => by
  simp only [xyz, List.mem_cons, List.not_mem_nil, or_false] at hs
  rcases hs with rfl | rfl | rfl <;> exact valid_one (by decide)) (by decide)
theorem xyz_short : Short xyz := fun s hs => by
  simp only [xyz, List.mem_cons, List.not_mem_nil, or_false] at hs
  rcases hs with rfl | rfl | rfl <;> decide
theorem text_bytes {w t : ByteArray} {zs : List ByteArray} (h : t.data.toList = w.data.toList ++ Lib.joinTail [32] (zs.map (·.data.toList))) : w ++ catS zs = t := by
  apply bytes_eq
  rw [ByteArray.toList_eq, ByteArray.toList_eq, ByteArray.data_append, Array.toList_append, catS_data, h]
theorem awake_a : textOf xyz 3 [0, 1, 2] = (⟨#[116, 114, 105, 111, 32, 120, 32, 121, 32, 122]⟩, 0) := by
  rw [textOf_some xyz_code (by omega) (zs := xyz) rfl]
  rw [text_bytes]; rfl
theorem awake_b : textOf xyz 0 [] = (⟨#[97, 99, 99, 101, 112, 116, 101, 100]⟩, 0) := by
  rw [textOf_some xyz_code (by omega) (zs := []) rfl]
  rw [text_bytes]; rfl
theorem awake_t : textOf xyz 2 [2, 0] = (⟨#[112, 97, 116, 104, 32, 122, 32, 120]⟩, 0) := by
  rw [textOf_some xyz_code (by omega) (zs := [⟨#[122]⟩, ⟨#[120]⟩]) rfl]
  rw [text_bytes]; rfl
theorem awake_c : parseOf xyz ⟨#[112, 97, 116, 104, 32, 122, 32, 120]⟩ = (2, [2, 0], 0) := by
  have := (parse_text (vs := xyz) (kind := 2) (l := [2, 0]) (by rw [awake_t])).1
  rwa [awake_t] at this
theorem dBsl_str3 (a b c z : ByteArray) (k : List Value → Prop) : dBsl 3 1 [.string z] [(0, .string a), (1, .string b), (2, .string c)] k = k (strs [a, b, c]) := by
  rw [dBsl_eq]
  show (if oneCells (strs [a, b, c]) = true then k (strs [a, b, c]) else False) = _
  exact if_pos (show oneCells (strs [a, b, c]) = true from rfl)
theorem dBsl_int3 (a b c z : Int) (k : List Value → Prop) : dBsl 3 1 [.int .i64 z] [(0, .int .i64 a), (1, .int .i64 b), (2, .int .i64 c)] k = k (i64s [a, b, c]) := by
  rw [dBsl_eq]
  show (if oneCells (i64s [a, b, c]) = true then k (i64s [a, b, c]) else False) = _
  exact if_pos (show oneCells (i64s [a, b, c]) = true from rfl)
theorem dBsl_int2 (a b z : Int) (k : List Value → Prop) : dBsl 2 1 [.int .i64 z] [(0, .int .i64 a), (1, .int .i64 b)] k = k (i64s [a, b]) := by
  rw [dBsl_eq]
  show (if oneCells (i64s [a, b]) = true then k (i64s [a, b]) else False) = _
  exact if_pos (show oneCells (i64s [a, b]) = true from rfl)
theorem sl_new {H : Heap} {nx b sl : Nat} {c : List Value} (hb : b < nx) (hg : getH H b = some (.cells c sl)) : Sl H nx (some ⟨b, 0, none⟩) c := fun i u hu => ⟨b, 0, c, rfl, hb, by simp [rowOf, hg, Blk.row], by simpa using hu⟩
theorem has_new {H : Heap} {nx b sl : Nat} {c : List Value} (hb : b < nx) (hg : getH H b = some (.cells c sl)) : Has H nx (some ⟨b, 0, none⟩) := .inr ⟨b, 0, c, rfl, hb, by simp [rowOf, hg, Blk.row]⟩

set_option maxHeartbeats 4000000 in
theorem awake7 (H : Heap) (nx : Nat) : Ans Tryz.prog 7 [] H nx fun r H' nx' => .bool true = r ∧ Ext H nx H' nx' := by
  refine spec7 ?_
  unfold F7
  have hE2 : Ext H nx (Go.Clo.hs (Go.Clo.hs H nx (some (.cells (strs xyz) 0))) (nx + 1) (some (.cells (i64s [0, 1, 2]) 0))) (nx + 1 + 1) := ((Ext.refl H nx).new _ (Nat.le_refl _) (Nat.le_succ _)).new _ (by omega) (by omega)
  have hgs : getH (Go.Clo.hs (Go.Clo.hs H nx (some (.cells (strs xyz) 0))) (nx + 1) (some (.cells (i64s [0, 1, 2]) 0))) nx = some (.cells (strs xyz) 0) := by rw [getH_ne _ (by omega), getH_same]
  have hgi : getH (Go.Clo.hs (Go.Clo.hs H nx (some (.cells (strs xyz) 0))) (nx + 1) (some (.cells (i64s [0, 1, 2]) 0))) (nx + 1) = some (.cells (i64s [0, 1, 2]) 0) := getH_same _ _ _
  have ex : strs [⟨#[120]⟩, ⟨#[121]⟩, ⟨#[122]⟩] = strs xyz := rfl
  simp (disch := first | omega | assumption | exact shr_lt (by assumption) | exact ndiff32 (by assumption) | exact below_lt (by omega) | fail) only [wFld_eq, wNew_eq, wLd_none, forceV_eq, Yld.val, Nat.zero_add, Nat.add_zero, dBsl_str3, dBsl_int3, wBuild_2, ex]
  generalize Go.Clo.hs (Go.Clo.hs H nx (some (.cells (strs xyz) 0))) (nx + 1) (some (.cells (i64s [0, 1, 2]) 0)) = H2 at hE2 hgs hgi ⊢
  refine wCall_rule (verdict8 (some ⟨nx, 0, none⟩) none (some ⟨nx + 1, 0, none⟩) xyz 3 [] [0, 1, 2] 3 0 3 H2 (nx + 1 + 1) (sl_new (by omega) hgs) (has_new (by omega) hgs) (fun h => by cases h) xyz_short (by decide) (Sl.nil _ _ _) (sl_new (by omega) hgi) (by decide) (by decide)) ?_
  rintro _ H3 n3 ⟨rfl, hE3⟩
  rw [if_neg (by decide), awake_a]
  have hn3 := hE3.le
  have hgs3 : getH H3 nx = some (.cells (strs xyz) 0) := by rw [hE3.get nx (by omega)]; exact hgs
  simp (disch := first | omega | assumption | exact shr_lt (by assumption) | exact ndiff32 (by assumption) | exact below_lt (by omega) | fail) only [wBin_eql, wGuard_true, wExt_eq, Option.elim_some, List.getElem?_cons_zero, List.getElem?_cons_succ, decide_true, if_true, tval, wBuild_0]
  refine wCall_rule (verdict8 (some ⟨nx, 0, none⟩) none none xyz 0 [] [] 3 0 0 H3 n3 (sl_new (by omega) hgs3) (has_new (by omega) hgs3) (fun h => by cases h) xyz_short (by decide) (Sl.nil _ _ _) (Sl.nil _ _ _) (by decide) (by decide)) ?_
  rintro _ H4 n4 ⟨rfl, hE4⟩
  rw [if_pos rfl, awake_b]
  have hn4 := hE4.le
  have hgs4 : getH H4 nx = some (.cells (strs xyz) 0) := by rw [hE4.get nx (by omega)]; exact hgs3
  simp (disch := first | omega | assumption | exact shr_lt (by assumption) | exact ndiff32 (by assumption) | exact below_lt (by omega) | fail) only [wBin_eql, wGuard_true, wExt_eq, Option.elim_some, List.getElem?_cons_zero, List.getElem?_cons_succ, decide_true, if_true, tval]
  refine wCall_rule (parse11 (some ⟨nx, 0, none⟩) xyz ⟨#[112, 97, 116, 104, 32, 122, 32, 120]⟩ 3 H4 n4 (sl_new (by omega) hgs4) (has_new (by omega) hgs4) (fun h => by cases h) xyz_short (by decide) (by decide)) ?_
  rintro _ H5 n5 ⟨⟨P, W, rfl, hV⟩, hE5⟩
  rw [awake_c] at hV ⊢
  obtain ⟨hW, rfl⟩ := hV.2 (by decide)
  obtain ⟨B, rfl, hB, _⟩ := hW.sl
  have hX7 : Ext H5 n5 (Go.Clo.hs (Go.Clo.hs H5 n5 (some (.cells [.int .i64 0, .slice none 0 0, .slice none 0 0] 0))) n5 (some (.cells [.int .i64 2, .slice none 0 0, .slice B (i64s [2, 0]).length (i64s [2, 0]).length] 0))) (n5 + 1) := ((Ext.refl _ _).new _ (Nat.le_refl _) (by omega)).new _ (Nat.le_refl _) (Nat.le_refl _)
  have hg7 : getH (Go.Clo.hs (Go.Clo.hs H5 n5 (some (.cells [.int .i64 0, .slice none 0 0, .slice none 0 0] 0))) n5 (some (.cells [.int .i64 2, .slice none 0 0, .slice B (i64s [2, 0]).length (i64s [2, 0]).length] 0))) n5 = some (.cells [.int .i64 2, .slice none 0 0, .slice B (i64s [2, 0]).length (i64s [2, 0]).length] 0) := getH_same _ _ _
  simp (disch := first | omega | assumption | exact shr_lt (by assumption) | exact ndiff32 (by assumption) | exact below_lt (by omega) | fail) only [wBin_eql, wGuard_true, wExt_eq, oneCells, ldP_cells, cellP_one, getH_same, Option.elim_some, List.getElem?_cons_zero, List.getElem?_cons_succ, decide_true, if_true, Nat.zero_add, true_and, and_self, wSt_agg, stP_cells, List.length_cons, List.length_nil, Nat.le_refl, Nat.reduceAdd, putL_lit3]
  generalize Go.Clo.hs (Go.Clo.hs H5 n5 (some (.cells [.int .i64 0, .slice none 0 0, .slice none 0 0] 0))) n5 (some (.cells [.int .i64 2, .slice none 0 0, .slice B (i64s [2, 0]).length (i64s [2, 0]).length] 0)) = H7 at hX7 hg7 ⊢
  have z0 : decide ((0 : Int) = 0) = true := by decide
  have z2 : decide ((2 : Int) = 2) = true := by decide
  simp (disch := first | omega | assumption | exact shr_lt (by assumption) | exact ndiff32 (by assumption) | exact below_lt (by omega) | fail) only [wGuard_true, decide_true, if_true, wBin_streq, dBsl_int2]
  have hX8 : Ext H7 (n5 + 1) (Go.Clo.hs H7 (n5 + 1) (some (.cells (i64s [2, 0]) 0))) (n5 + 1 + 1) := (Ext.refl _ _).new _ (Nat.le_refl _) (by omega)
  refine wCall_rule (equal13 B (some ⟨n5 + 1, 0, none⟩) [2, 0] [2, 0] 2 2 _ (n5 + 1 + 1) (hB.ext (hX7.trans hX8)) (sl_new (by omega) (getH_same _ _ _)) (by decide)) ?_
  rintro _ _ n9 ⟨rfl, rfl, hn9⟩
  have hg8 : getH (Go.Clo.hs H7 (n5 + 1) (some (.cells (i64s [2, 0]) 0))) n5 = some (.cells [.int .i64 2, .slice none 0 0, .slice B (i64s [2, 0]).length (i64s [2, 0]).length] 0) := by rw [getH_ne _ (by omega)]; exact hg7
  have e9 : decide (([2, 0] : List Int) = [2, 0]) = true := by decide
  have z3 : decide (((0 : Nat) : Int) = 0) = true := by decide
  simp (disch := first | omega | assumption | exact shr_lt (by assumption) | exact ndiff32 (by assumption) | exact below_lt (by omega) | fail) only [wBin_eql, wGuard_true, wLen_slice, ldP_cells, cellP_one, Option.elim_some, List.getElem?_cons_zero, List.getElem?_cons_succ, decide_true, if_true, true_and, hg8, z3]
  exact ((((hE2.trans hE3).trans hE4).trans hE5).trans (hX7.trans hX8)).more hn9

end Go.Proofs.YthbdeaeghipliaaGreatDoor

set_option linter.unusedSimpArgs false
set_option linter.unusedVariables false
set_option linter.unusedSectionVars false
namespace Go.Proofs.YthbdeaeghipliaaGreatDoor
open Go.Clo

set_option maxHeartbeats 2000000 in
theorem law3_of (hgreat : ∀ (q : QueryR) (H : Heap) (nx : Nat), QueryOK H nx q → QueryL q → Ans Tryz.prog 5 [.agg ⟨queryC q⟩] H nx fun v H' nx' => (∃ c : Bool, v = .bool c ∧ (c = false → QueryS q)) ∧ Ext H nx H' nx')
    (q : QueryR) (mk : Nat) (kind : Int) (P W : Option Addr) (p w : List Int) (pc wc : Nat) (H : Heap) (nx : Nat) (hQ : QueryOK H nx q) (hL : QueryL q) (hm32 : mk < 4294967296)
    (hP : Sl H nx P (i64s p)) (hW : Sl H nx W (i64s w)) (hp : p.length < 2305843009213693952) (hw : w.length < 2305843009213693952) :
    Ans Tryz.prog 3 [.agg ⟨queryC q⟩, .agg ⟨verdC mk kind P W p.length pc w.length wc⟩] H nx fun v H' nx' => .bool true = v ∧ Ext H nx H' nx' := by
  refine spec3 ?_
  unfold F3
  unfold queryC verdC
  simp (disch := first | omega | assumption | exact shr_lt (by assumption) | exact ndiff32 (by assumption) | exact below_lt (by omega) | fail) only [wFld_eq, wNew_eq, dBox_agg, oneCells, wLd_3, ldP_cells, getH_same, getH_ne, forceV_eq, Yld.val, if_true, Nat.zero_add, wLd_5, cellP_lit5]
  generalize hK : hs (hs H nx (some (.cells [.slice q.HA q.head.length q.hc, .int .i64 q.agg, .string q.aggvar, .slice q.RA q.rules.length q.rc, .slice q.OA q.order.length q.oc] 0))) (nx + 1) (some (.cells [.int .u32 (mk : Int), .int .i64 kind, .slice P p.length pc, .slice W w.length wc] 0)) = K
  have kv : getH K (nx + 1) = some (.cells [.int .u32 (mk : Int), .int .i64 kind, .slice P p.length pc, .slice W w.length wc] 0) := by rw [← hK, getH_same]
  have kE : Ext H nx K (nx + 1 + 1) := ⟨by omega, fun i hi => by rw [← hK, getH_ne _ (by omega), getH_ne _ (by omega)]⟩
  have kq : getH K nx = some (.cells [.slice q.HA q.head.length q.hc, .int .i64 q.agg, .string q.aggvar, .slice q.RA q.rules.length q.rc, .slice q.OA q.order.length q.oc] 0) := by rw [← hK, getH_ne _ (by omega), getH_same]
  refine wJoin_rule (fun L H' nx' => (∃ c : Bool, L = [.bool c] ∧ (c = false → QueryS q ∧ p.length + w.length ≤ 40)) ∧ Ext K (nx + 1 + 1) H' nx') ?_ ?_
  · intro tj hj
    refine wCall_rule (hgreat q K (nx + 1 + 1) (hQ.ext kE) hL) ?_
    rintro _ H2 nx2 ⟨⟨c, rfl, hc⟩, hE2⟩
    have hgv2 := (hE2.get (nx + 1) (by omega)).trans kv
    cases c with
    | true =>
      simp (disch := first | omega | assumption | exact shr_lt (by assumption) | exact ndiff32 (by assumption) | exact below_lt (by omega) | fail) only [wGuard_false, if_true]
      exact hj _ _ _ ⟨⟨true, rfl, (fun h => by cases h)⟩, hE2⟩
    | false =>
      simp (disch := first | omega | assumption | exact shr_lt (by assumption) | exact ndiff32 (by assumption) | exact below_lt (by omega) | fail) only [wGuard_false, ldP_cells, if_false, Bool.false_eq_true, hgv2, cellP_tail3]
      refine wCall_rule (great6 none P W [] kind 0 p.length pc w.length wc H2 nx2 (Sl.nil _ _ _) (by simp) hp hw) ?_
      rintro _ H3 nx3 ⟨⟨c3, rfl, hc3⟩, hE3⟩
      exact hj _ _ _ ⟨⟨c3, rfl, fun h => ⟨hc rfl, (hc3 h).2.2⟩⟩, hE2.trans hE3⟩
  rintro _ H4 nx4 ⟨⟨c, rfl, hc⟩, hE4⟩
  have hEE4 := kE.trans hE4
  have hgq4 := (hE4.get nx (by omega)).trans kq
  have hgv4 := (hE4.get (nx + 1) (by omega)).trans kv
  cases c with
  | true =>
    simp (disch := first | omega | assumption | exact shr_lt (by assumption) | exact ndiff32 (by assumption) | exact below_lt (by omega) | fail) only [List.getD_cons_zero, wIf_bool, if_true]
    refine wCall_rule (awake7 H4 nx4) ?_
    rintro _ H5 nx5 ⟨rfl, hE5⟩
    simp (disch := first | omega | assumption | exact shr_lt (by assumption) | exact ndiff32 (by assumption) | exact below_lt (by omega) | fail) only [true_and]
    exact hEE4.trans hE5
  | false =>
    obtain ⟨hz9, h40⟩ := hc rfl
    simp (disch := first | omega | assumption | exact shr_lt (by assumption) | exact ndiff32 (by assumption) | exact below_lt (by omega) | fail) only [List.getD_cons_zero, wIf_bool, ldP_cells, if_false, Bool.false_eq_true, hgq4, hgv4, wLd_4, cellP_lit5, cellP_lit4]
    refine wCall_rule (refusal8 q mk kind P W p w pc wc H4 nx4 (hQ.ext hEE4) hz9 hm32 (hP.ext hEE4) (hW.ext hEE4) (by omega) (by omega)) ?_
    rintro _ H5 nx5 ⟨rfl, hE5⟩
    have hE45 := hE4.trans hE5
    have hEE5 := kE.trans hE45
    have hgq5 := (hE45.get nx (by omega)).trans kq
    have hgv5 := (hE45.get (nx + 1) (by omega)).trans kv
    generalize hT : resV q mk kind (if kind = 0 then p else w) = T
    obtain ⟨t, c⟩ := T
    simp (disch := first | omega | assumption | exact shr_lt (by assumption) | exact ndiff32 (by assumption) | exact below_lt (by omega) | fail) only [wExt_eq, ldP_cells, Option.elim_some, List.getElem?_cons_zero, List.getElem?_cons_succ, tval, hgq5, hgv5, cellP_lit5, cellP_lit4]
    refine wCall_rule (refused9 q mk kind P W p w pc wc H5 nx5 (hQ.ext hEE5) hz9 hm32 (hP.ext hEE5) (hW.ext hEE5) (by omega) (by omega)) ?_
    rintro _ H6 nx6 ⟨rfl, hE6⟩
    rw [hT]
    have d1 : decide (t = t) = true := decide_eq_true rfl
    have d2 : decide (c = c) = true := decide_eq_true rfl
    simp (disch := first | omega | assumption | exact shr_lt (by assumption) | exact ndiff32 (by assumption) | exact below_lt (by omega) | fail) only [wBin_eql, wGuard_true, wExt_eq, Option.elim_some, List.getElem?_cons_zero, List.getElem?_cons_succ, decide_true, if_true, tval, wBin_streq]
    refine wCall_rule (awake7 H6 nx6) ?_
    rintro _ H7 nx7 ⟨rfl, hE7⟩
    simp (disch := first | omega | assumption | exact shr_lt (by assumption) | exact ndiff32 (by assumption) | exact below_lt (by omega) | fail) only [true_and]
    exact (hEE5.trans hE6).trans hE7
end Go.Proofs.YthbdeaeghipliaaGreatDoor

set_option linter.unusedSimpArgs false
set_option linter.unusedVariables false
set_option linter.unusedSectionVars false
namespace Go.Proofs.YthbdeaeghipliaaGreatDoor
open Go.Clo
set_option maxRecDepth 100000
/-! 5: ordinal/ordinallaw21.Great -/
def d5 : D :=
  (.seq
    (.ops [
        (none, [⟨none, some 1, .a (.box (.s 0))⟩,
        ⟨none, some 2, .p (.mv (.c (.bool false)))⟩])] (.one .nil))
    (.seq
      (.ops [
          (none, [⟨none, some 17, .p (.fld (.s 1) 0)⟩,
          ⟨none, some 18, .r (.ld (.s 17) none)⟩,
          ⟨none, some 19, .r (.len (.s 18) 0)⟩,
          ⟨none, some 20, .p (.fld (.s 1) 4)⟩,
          ⟨none, some 21, .r (.ld (.s 20) none)⟩,
          ⟨none, some 22, .r (.len (.s 21) 0)⟩,
          ⟨none, some 23, .p (.bin .add (.s 19) (.s 22))⟩,
          ⟨none, some 3, .p (.mv (.s 23))⟩])] (.one .nil))
      (.seq
        (.ops [
            (none, [⟨none, some 24, .p (.fld (.s 1) 2)⟩,
            ⟨none, some 25, .r (.ld (.s 24) none)⟩,
            ⟨none, some 26, .r (.len (.s 25) 1)⟩,
            ⟨none, some 27, .p (.bin .gtr (.s 26) (.c (.int .i64 100)))⟩,
            ⟨none, some 4, .p (.mv (.s 27))⟩])] (.one .nil))
        (.seq
          (.seq
            (.ops [
                (none, [⟨none, some 28, .p (.fld (.s 1) 0)⟩,
                ⟨none, some 29, .r (.ld (.s 28) none)⟩,
                ⟨none, some 30, .r (.len (.s 29) 0)⟩,
                ⟨none, some 31, .p (.mv (.c (.int .i64 0)))⟩])] (.one .nil))
            (.block 0
              (.loop [4, 31] [6, 32, 33, 34, 35, 36, 37, 38, 39, 40, 41]
                (.seq
                  (.ops [
                      (none, [⟨none, some 32, .p (.bin .lss (.s 31) (.s 30))⟩])] (.one .nil))
                  (.seq
                    (.cond (.s 32)
                      .skip
                      (.exit 0))
                    (.join [4] [6, 33, 34, 35, 36, 37, 38, 39, 40]
                      (.block 1
                        (.seq
                          (.ops [
                              (none, [⟨none, some 33, .p (.idx (.s 29) (.s 31) none 1)⟩,
                              ⟨none, some 34, .r (.ld (.s 33) none)⟩,
                              ⟨none, some 6, .p (.mv (.s 34))⟩])] (.one .nil))
                          (.ops [
                              (none, [⟨none, some 35, .p (.mv (.s 4))⟩,
                              ⟨none, some 36, .p (.mv (.s 35))⟩]),
                              (some (36, false), [⟨none, some 37, .p (.mv (.s 6))⟩,
                              ⟨none, some 38, .r (.len (.s 37) 1)⟩,
                              ⟨none, some 39, .p (.bin .gtr (.s 38) (.c (.int .i64 100)))⟩]),
                              (none, [⟨none, some 40, .p (.pick (.s 36) (.c (.bool true)) (.s 39))⟩,
                              ⟨none, some 4, .p (.mv (.s 40))⟩])] (.one (.tst (.one .nil) (.one .nil))))))
                      (.ops [
                          (none, [⟨none, some 41, .p (.bin .add (.s 31) (.c (.int .i64 1)))⟩,
                          ⟨none, some 31, .p (.mv (.s 41))⟩])] (.one .nil))))))))
          (.seq
            (.seq
              (.ops [
                  (none, [⟨none, some 42, .p (.fld (.s 1) 4)⟩,
                  ⟨none, some 43, .r (.ld (.s 42) none)⟩,
                  ⟨none, some 44, .r (.len (.s 43) 0)⟩,
                  ⟨none, some 45, .p (.mv (.c (.int .i64 0)))⟩])] (.one .nil))
              (.block 2
                (.loop [4, 45] [8, 46, 47, 48, 49, 50, 51, 52, 53, 54, 55, 56]
                  (.seq
                    (.ops [
                        (none, [⟨none, some 46, .p (.bin .lss (.s 45) (.s 44))⟩])] (.one .nil))
                    (.seq
                      (.cond (.s 46)
                        .skip
                        (.exit 2))
                      (.join [4] [8, 47, 48, 49, 50, 51, 52, 53, 54, 55]
                        (.block 3
                          (.seq
                            (.ops [
                                (none, [⟨none, some 47, .p (.idx (.s 43) (.s 45) none 2)⟩,
                                ⟨none, some 48, .r (.ld (.s 47) (some 2))⟩,
                                ⟨none, some 8, .a (.alloc [.string ⟨#[]⟩, .bool false])⟩,
                                ⟨none, none, .e (.st (.s 8) (.s 48) 2)⟩])] (.one .nil))
                            (.ops [
                                (none, [⟨none, some 49, .p (.mv (.s 4))⟩,
                                ⟨none, some 50, .p (.mv (.s 49))⟩]),
                                (some (50, false), [⟨none, some 51, .p (.fld (.s 8) 0)⟩,
                                ⟨none, some 52, .r (.ld (.s 51) none)⟩,
                                ⟨none, some 53, .r (.len (.s 52) 1)⟩,
                                ⟨none, some 54, .p (.bin .gtr (.s 53) (.c (.int .i64 100)))⟩]),
                                (none, [⟨none, some 55, .p (.pick (.s 50) (.c (.bool true)) (.s 54))⟩,
                                ⟨none, some 4, .p (.mv (.s 55))⟩])] (.one (.tst (.one .nil) (.one .nil))))))
                        (.ops [
                            (none, [⟨none, some 56, .p (.bin .add (.s 45) (.c (.int .i64 1)))⟩,
                            ⟨none, some 45, .p (.mv (.s 56))⟩])] (.one .nil))))))))
            (.seq
              (.seq
                (.ops [
                    (none, [⟨none, some 57, .p (.fld (.s 1) 3)⟩,
                    ⟨none, some 58, .r (.ld (.s 57) none)⟩,
                    ⟨none, some 59, .r (.len (.s 58) 0)⟩,
                    ⟨none, some 60, .p (.mv (.c (.int .i64 0)))⟩])] (.one .nil))
                (.block 4
                  (.loop [3, 4, 60] [10, 12, 14, 16, 61, 62, 63, 64, 65, 66, 67, 68, 69, 70, 71, 72, 73, 74, 75, 76, 77, 78, 79, 80, 81, 82, 83, 84, 85, 86, 87, 88, 89, 90, 91, 92, 93, 94, 95, 96, 97, 98, 99, 100, 101, 102, 103, 104, 105, 106, 107, 108, 109, 110, 111, 112, 113, 114, 115, 116, 117, 118, 119, 120, 121, 122, 123, 124, 125, 126, 127, 128, 129, 130, 131, 132, 133, 134]
                    (.seq
                      (.ops [
                          (none, [⟨none, some 61, .p (.bin .lss (.s 60) (.s 59))⟩])] (.one .nil))
                      (.seq
                        (.cond (.s 61)
                          .skip
                          (.exit 4))
                        (.seq
                          (.block 5
                            (.seq
                              (.ops [
                                  (none, [⟨none, some 62, .p (.idx (.s 58) (.s 60) none 2)⟩,
                                  ⟨none, some 63, .r (.ld (.s 62) (some 2))⟩,
                                  ⟨none, some 10, .a (.alloc [.slice none 0 0, .slice none 0 0])⟩,
                                  ⟨none, none, .e (.st (.s 10) (.s 63) 2)⟩])] (.one .nil))
                              (.seq
                                (.ops [
                                    (none, [⟨none, some 64, .p (.mv (.s 3))⟩,
                                    ⟨none, some 65, .p (.fld (.s 10) 1)⟩,
                                    ⟨none, some 66, .r (.ld (.s 65) none)⟩,
                                    ⟨none, some 67, .r (.len (.s 66) 0)⟩,
                                    ⟨none, some 68, .p (.bin .add (.s 64) (.s 67))⟩,
                                    ⟨none, some 3, .p (.mv (.s 68))⟩])] (.one .nil))
                                (.seq
                                  (.seq
                                    (.ops [
                                        (none, [⟨none, some 69, .p (.fld (.s 10) 1)⟩,
                                        ⟨none, some 70, .r (.ld (.s 69) none)⟩,
                                        ⟨none, some 71, .r (.len (.s 70) 0)⟩,
                                        ⟨none, some 72, .p (.mv (.c (.int .i64 0)))⟩])] (.one .nil))
                                    (.block 6
                                      (.loop [4, 72] [12, 73, 74, 75, 76, 77, 78, 79, 80, 81, 82, 83, 84, 85, 86, 87, 88, 89, 90]
                                        (.seq
                                          (.ops [
                                              (none, [⟨none, some 73, .p (.bin .lss (.s 72) (.s 71))⟩])] (.one .nil))
                                          (.seq
                                            (.cond (.s 73)
                                              .skip
                                              (.exit 6))
                                            (.join [4] [12, 74, 75, 76, 77, 78, 79, 80, 81, 82, 83, 84, 85, 86, 87, 88, 89]
                                              (.block 7
                                                (.seq
                                                  (.ops [
                                                      (none, [⟨none, some 74, .p (.idx (.s 70) (.s 72) none 5)⟩,
                                                      ⟨none, some 75, .r (.ld (.s 74) (some 5))⟩,
                                                      ⟨none, some 12, .a (.alloc [.string ⟨#[]⟩, .int .i64 0, .int .i64 0, .int .i64 0, .string ⟨#[]⟩])⟩,
                                                      ⟨none, none, .e (.st (.s 12) (.s 75) 5)⟩])] (.one .nil))
                                                  (.ops [
                                                      (none, [⟨none, some 76, .p (.mv (.s 4))⟩,
                                                      ⟨none, some 77, .p (.mv (.s 76))⟩]),
                                                      (some (77, false), [⟨none, some 78, .p (.fld (.s 12) 0)⟩,
                                                      ⟨none, some 79, .r (.ld (.s 78) none)⟩,
                                                      ⟨none, some 80, .r (.len (.s 79) 1)⟩,
                                                      ⟨none, some 81, .p (.bin .gtr (.s 80) (.c (.int .i64 100)))⟩]),
                                                      (none, [⟨none, some 82, .p (.pick (.s 77) (.c (.bool true)) (.s 81))⟩,
                                                      ⟨none, some 83, .p (.mv (.s 82))⟩]),
                                                      (some (83, false), [⟨none, some 84, .p (.fld (.s 12) 2)⟩,
                                                      ⟨none, some 85, .p (.fld (.s 84) 2)⟩,
                                                      ⟨none, some 86, .r (.ld (.s 85) none)⟩,
                                                      ⟨none, some 87, .r (.len (.s 86) 1)⟩,
                                                      ⟨none, some 88, .p (.bin .gtr (.s 87) (.c (.int .i64 100)))⟩]),
                                                      (none, [⟨none, some 89, .p (.pick (.s 83) (.c (.bool true)) (.s 88))⟩,
                                                      ⟨none, some 4, .p (.mv (.s 89))⟩])] (.one (.tst (.one (.tst (.one .nil) (.one .nil))) (.one (.one (.one .nil))))))))
                                              (.ops [
                                                  (none, [⟨none, some 90, .p (.bin .add (.s 72) (.c (.int .i64 1)))⟩,
                                                  ⟨none, some 72, .p (.mv (.s 90))⟩])] (.one .nil))))))))
                                  (.seq
                                    (.ops [
                                        (none, [⟨none, some 91, .p (.fld (.s 10) 0)⟩,
                                        ⟨none, some 92, .r (.ld (.s 91) none)⟩,
                                        ⟨none, some 93, .r (.len (.s 92) 0)⟩,
                                        ⟨none, some 94, .p (.mv (.c (.int .i64 0)))⟩])] (.one .nil))
                                    (.block 8
                                      (.loop [3, 4, 94] [14, 16, 95, 96, 97, 98, 99, 100, 101, 102, 103, 104, 105, 106, 107, 108, 109, 110, 111, 112, 113, 114, 115, 116, 117, 118, 119, 120, 121, 122, 123, 124, 125, 126, 127, 128, 129, 130, 131, 132, 133]
                                        (.seq
                                          (.ops [
                                              (none, [⟨none, some 95, .p (.bin .lss (.s 94) (.s 93))⟩])] (.one .nil))
                                          (.seq
                                            (.cond (.s 95)
                                              .skip
                                              (.exit 8))
                                            (.seq
                                              (.block 9
                                                (.seq
                                                  (.ops [
                                                      (none, [⟨none, some 96, .p (.idx (.s 92) (.s 94) none 3)⟩,
                                                      ⟨none, some 97, .r (.ld (.s 96) (some 3))⟩,
                                                      ⟨none, some 14, .a (.alloc [.bool false, .string ⟨#[]⟩, .slice none 0 0])⟩,
                                                      ⟨none, none, .e (.st (.s 14) (.s 97) 3)⟩])] (.one .nil))
                                                  (.seq
                                                    (.ops [
                                                        (none, [⟨none, some 98, .p (.mv (.s 3))⟩,
                                                        ⟨none, some 99, .p (.fld (.s 14) 2)⟩,
                                                        ⟨none, some 100, .r (.ld (.s 99) none)⟩,
                                                        ⟨none, some 101, .r (.len (.s 100) 0)⟩,
                                                        ⟨none, some 102, .p (.bin .add (.c (.int .i64 1)) (.s 101))⟩,
                                                        ⟨none, some 103, .p (.bin .add (.s 98) (.s 102))⟩,
                                                        ⟨none, some 3, .p (.mv (.s 103))⟩])] (.one .nil))
                                                    (.join [4] [104, 105, 106, 107, 108, 109, 110]
                                                      (.ops [
                                                          (none, [⟨none, some 104, .p (.mv (.s 4))⟩,
                                                          ⟨none, some 105, .p (.mv (.s 104))⟩]),
                                                          (some (105, false), [⟨none, some 106, .p (.fld (.s 14) 1)⟩,
                                                          ⟨none, some 107, .r (.ld (.s 106) none)⟩,
                                                          ⟨none, some 108, .r (.len (.s 107) 1)⟩,
                                                          ⟨none, some 109, .p (.bin .gtr (.s 108) (.c (.int .i64 100)))⟩]),
                                                          (none, [⟨none, some 110, .p (.pick (.s 105) (.c (.bool true)) (.s 109))⟩,
                                                          ⟨none, some 4, .p (.mv (.s 110))⟩])] (.one (.tst (.one .nil) (.one .nil))))
                                                      (.seq
                                                        (.ops [
                                                            (none, [⟨none, some 111, .p (.fld (.s 14) 2)⟩,
                                                            ⟨none, some 112, .r (.ld (.s 111) none)⟩,
                                                            ⟨none, some 113, .r (.len (.s 112) 0)⟩,
                                                            ⟨none, some 114, .p (.mv (.c (.int .i64 0)))⟩])] (.one .nil))
                                                        (.block 10
                                                          (.loop [4, 114] [16, 115, 116, 117, 118, 119, 120, 121, 122, 123, 124, 125, 126, 127, 128, 129, 130, 131, 132]
                                                            (.seq
                                                              (.ops [
                                                                  (none, [⟨none, some 115, .p (.bin .lss (.s 114) (.s 113))⟩])] (.one .nil))
                                                              (.seq
                                                                (.cond (.s 115)
                                                                  .skip
                                                                  (.exit 10))
                                                                (.join [4] [16, 116, 117, 118, 119, 120, 121, 122, 123, 124, 125, 126, 127, 128, 129, 130, 131]
                                                                  (.block 11
                                                                    (.seq
                                                                      (.ops [
                                                                          (none, [⟨none, some 116, .p (.idx (.s 112) (.s 114) none 4)⟩,
                                                                          ⟨none, some 117, .r (.ld (.s 116) (some 4))⟩,
                                                                          ⟨none, some 16, .a (.alloc [.string ⟨#[]⟩, .int .i64 0, .int .i64 0, .string ⟨#[]⟩])⟩,
                                                                          ⟨none, none, .e (.st (.s 16) (.s 117) 4)⟩])] (.one .nil))
                                                                      (.ops [
                                                                          (none, [⟨none, some 118, .p (.mv (.s 4))⟩,
                                                                          ⟨none, some 119, .p (.mv (.s 118))⟩]),
                                                                          (some (119, false), [⟨none, some 120, .p (.fld (.s 16) 0)⟩,
                                                                          ⟨none, some 121, .r (.ld (.s 120) none)⟩,
                                                                          ⟨none, some 122, .r (.len (.s 121) 1)⟩,
                                                                          ⟨none, some 123, .p (.bin .gtr (.s 122) (.c (.int .i64 100)))⟩]),
                                                                          (none, [⟨none, some 124, .p (.pick (.s 119) (.c (.bool true)) (.s 123))⟩,
                                                                          ⟨none, some 125, .p (.mv (.s 124))⟩]),
                                                                          (some (125, false), [⟨none, some 126, .p (.fld (.s 16) 1)⟩,
                                                                          ⟨none, some 127, .p (.fld (.s 126) 2)⟩,
                                                                          ⟨none, some 128, .r (.ld (.s 127) none)⟩,
                                                                          ⟨none, some 129, .r (.len (.s 128) 1)⟩,
                                                                          ⟨none, some 130, .p (.bin .gtr (.s 129) (.c (.int .i64 100)))⟩]),
                                                                          (none, [⟨none, some 131, .p (.pick (.s 125) (.c (.bool true)) (.s 130))⟩,
                                                                          ⟨none, some 4, .p (.mv (.s 131))⟩])] (.one (.tst (.one (.tst (.one .nil) (.one .nil))) (.one (.one (.one .nil))))))))
                                                                  (.ops [
                                                                      (none, [⟨none, some 132, .p (.bin .add (.s 114) (.c (.int .i64 1)))⟩,
                                                                      ⟨none, some 114, .p (.mv (.s 132))⟩])] (.one .nil))))))))))))
                                              (.ops [
                                                  (none, [⟨none, some 133, .p (.bin .add (.s 94) (.c (.int .i64 1)))⟩,
                                                  ⟨none, some 94, .p (.mv (.s 133))⟩])] (.one .nil))))))))))))
                          (.ops [
                              (none, [⟨none, some 134, .p (.bin .add (.s 60) (.c (.int .i64 1)))⟩,
                              ⟨none, some 60, .p (.mv (.s 134))⟩])] (.one .nil))))))))
              (.seq
                (.ops [
                    (none, [⟨none, some 135, .p (.mv (.s 4))⟩,
                    ⟨none, some 136, .p (.mv (.s 135))⟩]),
                    (some (136, false), [⟨none, some 137, .p (.mv (.s 3))⟩,
                    ⟨none, some 138, .p (.bin .gtr (.s 137) (.c (.int .i64 200)))⟩]),
                    (none, [⟨none, some 139, .p (.pick (.s 136) (.c (.bool true)) (.s 138))⟩,
                    ⟨none, some 140, .p (.mv (.s 139))⟩]),
                    (some (140, false), [⟨none, some 141, .p (.fld (.s 1) 3)⟩,
                    ⟨none, some 142, .r (.ld (.s 141) none)⟩,
                    ⟨none, some 143, .r (.len (.s 142) 0)⟩,
                    ⟨none, some 144, .p (.bin .gtr (.s 143) (.c (.int .i64 5)))⟩]),
                    (none, [⟨none, some 145, .p (.pick (.s 140) (.c (.bool true)) (.s 144))⟩,
                    ⟨none, some 2, .p (.mv (.s 145))⟩])] (.one (.tst (.one (.tst (.one .nil) (.one .nil))) (.one (.one (.one .nil))))))
                .ret)))))))
theorem cfn5 : cfn Tryz.prog 5 = some ⟨146, 8, d5.erase, [(.s 2, none)]⟩ := by kernel_rfl
theorem ok5 : d5.ok 146 8 = true := by kernel_rfl

theorem eq5 (a0 : Value) (H : Heap) (nx : Nat) (k : EP) : wBody Tryz.prog 146 8 d5 [(.s 2, none)] [a0] H nx k = F5 a0 H nx k := by kernel_rfl
theorem spec5 {a0 : Value} {H : Heap} {nx : Nat} {k : EP} (h : F5 a0 H nx k) : Ans Tryz.prog 5 [a0] H nx k :=
  spec_of_body mixed namesOK cfn5 ok5 (by simp) ((eq5 a0 H nx k).symm ▸ h)

end Go.Proofs.YthbdeaeghipliaaGreatDoor

set_option linter.unusedSimpArgs false
set_option linter.unusedVariables false
set_option linter.unusedSectionVars false
namespace Go.Proofs.YthbdeaeghipliaaGreatDoor
open Go.Clo

theorem great5 (q : QueryR) (H : Heap) (nx : Nat) (hQ : QueryOK H nx q) (hL : QueryL q) : Ans Tryz.prog 5 [.agg ⟨queryC q⟩] H nx fun v H' nx' => (∃ c : Bool, v = .bool c ∧ (c = false → QueryS q)) ∧ Ext H nx H' nx' :=
  spec5 (greatF q H nx hQ hL)
theorem law3 (q : QueryR) (mk : Nat) (kind : Int) (P W : Option Addr) (p w : List Int) (pc wc : Nat) (H : Heap) (nx : Nat) (hQ : QueryOK H nx q) (hL : QueryL q) (hm32 : mk < 4294967296)
    (hP : Sl H nx P (i64s p)) (hW : Sl H nx W (i64s w)) (hp : p.length < 2305843009213693952) (hw : w.length < 2305843009213693952) :
    Ans Tryz.prog 3 [.agg ⟨queryC q⟩, .agg ⟨verdC mk kind P W p.length pc w.length wc⟩] H nx fun v H' nx' => .bool true = v ∧ Ext H nx H' nx' :=
  law3_of great5 q mk kind P W p w pc wc H nx hQ hL hm32 hP hW hp hw
end Go.Proofs.YthbdeaeghipliaaGreatDoor
