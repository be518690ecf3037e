/-
  Contract: absorb.
  Contract: isolate.
  Plain: what the reduction of a hypergraph keeps, and where it ends.
  Contract: slices.Clone.
  Contracts: Reduce and Acyclic, on a hypergraph whose reduction ends with empty edges.
  Contract: the law's permutation.
  Plain: the bags of an elimination, taken as edges: the same elimination yields the same bags, and the reduction of these edges ends with empty ones.
  Contracts: Acyclic on such edges; the law EliminationFills returns true.
-/
import Derived.Test.YtaieijjfabbfeaaF6
set_option linter.unusedSimpArgs false
set_option linter.unusedVariables false
set_option linter.unusedSectionVars false
namespace Go.Proofs.Ytaieijjfabbfeaa
open Go.Clo

def bools (l : List Bool) : List Value := l.map fun b => Value.bool b
theorem bools_get {l : List Bool} {i : Nat} {b : Bool} (h : l[i]? = some b) : (bools l)[i]? = some (.bool b) := by simp [bools, h]
theorem bools_length (l : List Bool) : (bools l).length = l.length := by simp [bools]

/-- Edge e may be absorbed by edge i. -/
def absorbs (rest : List Nat) (rem : List Bool) (e i : Nat) : Prop := e ≠ i ∧ rem[e]? = some false ∧ rem[i]? = some false ∧ ∃ x y, rest[e]? = some x ∧ rest[i]? = some y ∧ ndiff x y = 0

set_option maxHeartbeats 2000000 in
theorem absorb54 (A B : Option Addr) (rest : List Nat) (rem : List Bool) (capA capB : Nat) (H : Heap) (nx : Nat) (hA : Sl H nx A (u32s rest)) (hB : Sl H nx B (bools rem)) (hlen : rem.length = rest.length) (hl : rest.length ≤ 64) (hsm : Small rest) :
    Ans Try.prog 54 [.slice A rest.length capA, .slice B rem.length capB] H nx fun r H' nx' => Ext H nx H' nx' ∧
      ((∃ e i : Nat, absorbs rest rem e i ∧ r = .tuple ⟨[.agg ⟨[.int .i64 (e : Int), .int .i64 (i : Int), .int .i64 (-1)]⟩, .bool true]⟩) ∨
       ((∀ e i : Nat, ¬ absorbs rest rem e i) ∧ r = .tuple ⟨[.agg ⟨[.int .i64 0, .int .i64 0, .int .i64 0]⟩, .bool false]⟩)) := by
  refine spec54 ?_
  unfold F54
  have hE1 : Ext H nx (hs H nx (some (.cells [.int .i64 0, .int .i64 0, .int .i64 0] 0))) (nx + 1) := (Ext.refl H nx).new _ (Nat.le_refl _) (by omega)
  have hb0 : ∀ kk, wBuild [.int .i64 0, .int .i64 0, .int .i64 0] [(0, 1), (1, 1), (2, 1)] [] kk = kk (.agg ⟨[.int .i64 0, .int .i64 0, .int .i64 0]⟩) := fun _ => rfl
  have hb1 : ∀ (a b : Int) kk, wBuild [.int .i64 0, .int .i64 0, .int .i64 0] [(0, 1), (1, 1), (2, 1)] [(0, .int .i64 a), (1, .int .i64 b), (2, .int .i64 (-1))] kk = kk (.agg ⟨[.int .i64 a, .int .i64 b, .int .i64 (-1)]⟩) := fun _ _ _ => rfl
  simp (config := { maxSteps := 2000000 }) (disch := first | omega | assumption | exact shr_lt (by assumption) | exact ndiff32 (by assumption) | exact below_lt (by omega) | fail) only [wLen_slice, wNew_eq, wLd_3, forceV_eq, forceN_eq, Yld.val, and_true, true_and, or_false]
  generalize hK : hs H nx (some (.cells [.int .i64 0, .int .i64 0, .int .i64 0] 0)) = K at hE1
  have kG : getH K nx = some (.cells [.int .i64 0, .int .i64 0, .int .i64 0] 0) := by rw [← hK, getH_same]
  refine wLoop_rule (m := rest.length) (fun m L H' nx' => ∃ i : Nat, m + i = rest.length ∧ L = [.int .i64 (i : Int)] ∧ (∀ e j : Nat, e < i → ¬ absorbs rest rem e j) ∧ K = H' ∧ nx + 1 ≤ nx') ?_ ⟨0, rfl, rfl, fun e j h => by omega, rfl, Nat.le_refl _⟩
  rintro m ih L _ nx2 ⟨e, hm, rfl, hst, rfl, hx2⟩ hih
  simp (config := { maxSteps := 2000000 }) (disch := first | omega | assumption | exact shr_lt (by assumption) | exact ndiff32 (by assumption) | exact below_lt (by omega) | fail) only [List.getD_cons_zero, wBin_lss, wIf_bool, wBin_add64]
  by_cases he : e < rest.length
  case neg =>
    have he' : ¬ (e : Int) < (rest.length : Int) := by omega
    simp (config := { maxSteps := 2000000 }) (disch := first | omega | assumption | exact shr_lt (by assumption) | exact ndiff32 (by assumption) | exact below_lt (by omega) | fail) only [oneCells, ldP_cells, getH_same, decide_false, if_true, if_false, Bool.false_eq_true, Nat.zero_add, and_true, true_and, and_self, wSt_agg, stP_cells, List.length_cons, List.length_nil, Nat.le_refl, Nat.reduceAdd, he', hb0, kG, putL_lit3, cellP_lit3]
    refine ⟨(hE1.more hx2).hs (by omega), .inr fun a b => ?_⟩
    by_cases ha : a < e
    · exact hst a b ha
    · rintro ⟨_, h, _⟩
      have := lt_len h; omega
  have he' : (e : Int) < (rest.length : Int) := by omega
  simp (config := { maxSteps := 2000000 }) (disch := first | omega | assumption | exact shr_lt (by assumption) | exact ndiff32 (by assumption) | exact below_lt (by omega) | fail) only [decide_true, if_true, he']
  refine wLoop_rule (m := rest.length) (fun m L H' nx' => ∃ i : Nat, m + i = rest.length ∧ L = [.int .i64 (i : Int)] ∧ (∀ j : Nat, j < i → ¬ absorbs rest rem e j) ∧ K = H' ∧ nx + 1 ≤ nx') ?_ ⟨0, rfl, rfl, fun j h => by omega, rfl, hx2⟩
  rintro m3 ih3 L3 _ nx3 ⟨i, hm3, rfl, hst3, rfl, hx3⟩ hih3
  simp (config := { maxSteps := 2000000 }) (disch := first | omega | assumption | exact shr_lt (by assumption) | exact ndiff32 (by assumption) | exact below_lt (by omega) | fail) only [List.getD_cons_zero, wBin_lss, wBin_neq, wIf_bool, wGuard_true, wBin_add64]
  by_cases hi : i < rest.length
  case neg =>
    have hi' : ¬ (i : Int) < (rest.length : Int) := by omega
    simp (config := { maxSteps := 2000000 }) (disch := first | omega | assumption | exact shr_lt (by assumption) | exact ndiff32 (by assumption) | exact below_lt (by omega) | fail) only [decide_false, if_false, Bool.false_eq_true, hi']
    refine hih (m - 1) _ _ _ (by omega) ⟨e + 1, by omega, by simp, fun a b ha => ?_, rfl, hx3⟩
    by_cases hae : a = e
    · subst hae
      by_cases hb : b < i
      · exact hst3 b hb
      · rintro ⟨_, _, h, _⟩
        have := lt_len h; omega
    · exact hst a b (by omega)
  have hi' : (i : Int) < (rest.length : Int) := by omega
  obtain ⟨x, hx⟩ : ∃ x, rest[e]? = some x := ⟨_, List.getElem?_eq_getElem he⟩
  obtain ⟨y, hy⟩ : ∃ y, rest[i]? = some y := ⟨_, List.getElem?_eq_getElem hi⟩
  obtain ⟨p, hp⟩ : ∃ p, rem[e]? = some p := ⟨_, List.getElem?_eq_getElem (by omega)⟩
  obtain ⟨q, hq⟩ : ∃ q, rem[i]? = some q := ⟨_, List.getElem?_eq_getElem (by omega)⟩
  obtain ⟨A, oA, rowA, rfl, _, hrowA, hgetA⟩ := (hA.ext hE1).open (i := i) (by rw [u32s_length]; omega)
  obtain ⟨B, oB, rowB, rfl, _, hrowB, hgetB⟩ := (hB.ext hE1).open (i := i) (by rw [bools_length]; omega)
  have gx := hgetA _ _ (u32s_get hx)
  have gy := hgetA _ _ (u32s_get hy)
  have gp := hgetB _ _ (bools_get hp)
  have gq := hgetB _ _ (bools_get hq)
  have hx32 := hsm.get hx
  have hy32 := hsm.get hy
  have next : ¬ absorbs rest rem e i → ∀ nx', nx + 1 ≤ nx' → ih3 [.int .i64 ((i : Int) + 1)] K nx' := fun h nx' hx' =>
    hih3 (m3 - 1) _ _ _ (by omega) ⟨i + 1, by omega, by simp, fun j hj => by
      by_cases hji : j = i
      · subst hji; exact h
      · exact hst3 j (by omega), rfl, hx'⟩
  by_cases hei : e = i
  · have d1 : decide ((e : Int) ≠ (i : Int)) = false := by simp [hei]
    simp (config := { maxSteps := 2000000 }) (disch := first | omega | assumption | exact shr_lt (by assumption) | exact ndiff32 (by assumption) | exact below_lt (by omega) | fail) only [List.getD_cons_zero, wIf_bool, wLd_none, decide_true, if_true, if_false, Bool.false_eq_true, wIdx_slice, Int.toNat_natCast, Nat.mul_one, hi', wJoin_eq, d1]
    exact next (fun h => h.1 hei) _ (by omega)
  have d1 : decide ((e : Int) ≠ (i : Int)) = true := by simp; omega
  cases p with
  | true =>
    simp (config := { maxSteps := 2000000 }) (disch := first | omega | assumption | exact shr_lt (by assumption) | exact ndiff32 (by assumption) | exact below_lt (by omega) | fail) only [List.getD_cons_zero, wIf_bool, wGuard_true, wUn_not, wLd_none, cellP_one, Option.elim_some, decide_true, if_true, if_false, Bool.false_eq_true, and_true, true_and, Bool.not_true, wIdx_slice, Int.toNat_natCast, Nat.mul_one, hi', wJoin_eq, d1, ldP_row hrowB, gp]
    exact next (fun h => by have := h.2.1; rw [hp] at this; cases this) _ (by omega)
  | false =>
    cases q with
    | true =>
      simp (config := { maxSteps := 2000000 }) (disch := first | omega | assumption | exact shr_lt (by assumption) | exact ndiff32 (by assumption) | exact below_lt (by omega) | fail) only [List.getD_cons_zero, wIf_bool, wGuard_true, wUn_not, wLd_none, cellP_one, Option.elim_some, decide_true, if_true, if_false, Bool.false_eq_true, true_and, Bool.not_true, Bool.not_false, wIdx_slice, Int.toNat_natCast, Nat.mul_one, hi', wJoin_eq, d1, ldP_row hrowB, gp, gq]
      exact next (fun h => by have := h.2.2.1; rw [hq] at this; cases this) _ (by omega)
    | false =>
      by_cases hz : ndiff x y = 0
      · have d2 : decide (ndiff x y = 0) = true := by simp [hz]
        simp (config := { maxSteps := 2000000 }) (disch := first | omega | assumption | exact shr_lt (by assumption) | exact ndiff32 (by assumption) | exact below_lt (by omega) | fail) only [List.getD_cons_zero, wBin_eql, wIf_bool, wGuard_true, wUn_not, oneCells, wLd_none, ldP_cells, cellP_one, getH_same, Option.elim_some, decide_true, if_true, Nat.zero_add, true_and, Bool.not_false, and_self, wIdx_slice, Int.toNat_natCast, Nat.mul_one, wSt_agg, stP_cells, wBin_andNot32, u32_eq_zero, List.length_cons, List.length_nil, Nat.le_refl, Nat.reduceAdd, hi', wJoin_eq, d1, ldP_row hrowB, ldP_row hrowA, gp, gq, gx, gy, d2, hb1, kG, putL_lit3, cellP_lit3]
        exact ⟨(hE1.more (by omega)).hs (by omega), .inl ⟨e, i, ⟨hei, hp, hq, x, y, hx, hy, hz⟩, rfl⟩⟩
      · have d2 : decide (ndiff x y = 0) = false := by simp [hz]
        simp (config := { maxSteps := 2000000 }) (disch := first | omega | assumption | exact shr_lt (by assumption) | exact ndiff32 (by assumption) | exact below_lt (by omega) | fail) only [List.getD_cons_zero, wBin_eql, wIf_bool, wGuard_true, wUn_not, wLd_none, cellP_one, Option.elim_some, decide_true, if_true, if_false, Bool.false_eq_true, true_and, Bool.not_false, wIdx_slice, Int.toNat_natCast, Nat.mul_one, wBin_andNot32, u32_eq_zero, hi', wJoin_eq, d1, ldP_row hrowB, ldP_row hrowA, gp, gq, gx, gy, d2]
        refine next (fun h => ?_) _ (by omega)
        obtain ⟨_, _, _, x', y', h1, h2, h3⟩ := h
        rw [hx] at h1; rw [hy] at h2; cases h1; cases h2
        exact hz h3
end Go.Proofs.Ytaieijjfabbfeaa

set_option linter.unusedSimpArgs false
set_option linter.unusedVariables false
set_option linter.unusedSectionVars false
namespace Go.Proofs.Ytaieijjfabbfeaa
open Go.Clo

def bitAt (rest : List Nat) (v i : Nat) : Bool := match rest[i]? with
  | some x => x.testBit v
  | none => false
/-- Vertex v is in edge e alone. -/
def alone (rest : List Nat) (v e : Nat) : Prop := bitAt rest v e = true ∧ ∀ i, i ≠ e → bitAt rest v i = false
/-- What is known of v behind i edges. -/
def CntI (rest : List Nat) (v i c e : Nat) : Prop :=
  (c = 0 ∧ ∀ j, j < i → bitAt rest v j = false) ∨ (c = 1 ∧ e < i ∧ bitAt rest v e = true ∧ ∀ j, j < i → j ≠ e → bitAt rest v j = false) ∨ (2 ≤ c ∧ ∃ a b, a ≠ b ∧ bitAt rest v a = true ∧ bitAt rest v b = true)
theorem cnt_end {rest : List Nat} {v c e : Nat} (h : CntI rest v rest.length c e) : (c = 1 ∧ alone rest v e) ∨ (c ≠ 1 ∧ ∀ e', ¬ alone rest v e') := by
  have hout : ∀ j, ¬ j < rest.length → bitAt rest v j = false := fun j hj => by unfold bitAt; rw [List.getElem?_eq_none (by omega)]
  rcases h with ⟨h1, h2⟩ | ⟨h1, _, h3, h4⟩ | ⟨h1, a, b, hab, ha, hb⟩
  · refine .inr ⟨by omega, fun e' ⟨h5, _⟩ => ?_⟩
    by_cases hj : e' < rest.length
    · rw [h2 e' hj] at h5; cases h5
    · rw [hout e' hj] at h5; cases h5
  · refine .inl ⟨h1, h3, fun i hi => ?_⟩
    by_cases hj : i < rest.length
    · exact h4 i hj hi
    · exact hout i hj
  · refine .inr ⟨by omega, fun e' ⟨_, h6⟩ => ?_⟩
    by_cases hae : a = e'
    · rw [h6 b (by omega)] at hb; cases hb
    · rw [h6 a hae] at ha; cases ha
theorem cnt_yes {rest : List Nat} {v i c e : Nat} (h : CntI rest v i c e) (hb : bitAt rest v i = true) : CntI rest v (i + 1) (c + 1) i := by
  rcases h with ⟨h1, h2⟩ | ⟨h1, h2, h3, h4⟩ | ⟨h1, h2⟩
  · exact .inr (.inl ⟨by omega, by omega, hb, fun j hj hji => h2 j (by omega)⟩)
  · exact .inr (.inr ⟨by omega, e, i, by omega, h3, hb⟩)
  · exact .inr (.inr ⟨by omega, h2⟩)
theorem cnt_no {rest : List Nat} {v i c e : Nat} (h : CntI rest v i c e) (hb : bitAt rest v i = false) : CntI rest v (i + 1) c e := by
  rcases h with ⟨h1, h2⟩ | ⟨h1, h2, h3, h4⟩ | ⟨h1, h2⟩
  · refine .inl ⟨h1, fun j hj => ?_⟩
    by_cases hji : j = i
    · subst hji; exact hb
    · exact h2 j (by omega)
  · refine .inr (.inl ⟨h1, by omega, h3, fun j hj hje => ?_⟩)
    by_cases hji : j = i
    · subst hji; exact hb
    · exact h4 j (by omega) hje
  · exact .inr (.inr ⟨h1, h2⟩)

set_option maxHeartbeats 2000000 in
theorem isolate55 {n : Nat} (hn : n ≤ 32) (A : Option Addr) (rest : List Nat) (capA : Nat) (H : Heap) (nx : Nat) (hA : Sl H nx A (u32s rest)) (hl : rest.length ≤ 64) (hsm : Small rest) :
    Ans Try.prog 55 [.int .i64 (n : Int), .slice A rest.length capA] H nx fun r H' nx' => Ext H nx H' nx' ∧
      ((∃ v e : Nat, v < n ∧ alone rest v e ∧ r = .tuple ⟨[.agg ⟨[.int .i64 (e : Int), .int .i64 (-1), .int .i64 (v : Int)]⟩, .bool true]⟩) ∨
       ((∀ v e : Nat, v < n → ¬ alone rest v e) ∧ r = .tuple ⟨[.agg ⟨[.int .i64 0, .int .i64 0, .int .i64 0]⟩, .bool false]⟩)) := by
  refine spec55 ?_
  unfold F55
  have hE1 : Ext H nx (hs H nx (some (.cells [.int .i64 0, .int .i64 0, .int .i64 0] 0))) (nx + 1) := (Ext.refl H nx).new _ (Nat.le_refl _) (by omega)
  have hb0 : ∀ kk, wBuild [.int .i64 0, .int .i64 0, .int .i64 0] [(0, 1), (1, 1), (2, 1)] [] kk = kk (.agg ⟨[.int .i64 0, .int .i64 0, .int .i64 0]⟩) := fun _ => rfl
  have hb1 : ∀ (a b : Int) kk, wBuild [.int .i64 0, .int .i64 0, .int .i64 0] [(0, 1), (1, 1), (2, 1)] [(0, .int .i64 a), (1, .int .i64 (-1)), (2, .int .i64 b)] kk = kk (.agg ⟨[.int .i64 a, .int .i64 (-1), .int .i64 b]⟩) := fun _ _ _ => rfl
  simp (config := { maxSteps := 2000000 }) (disch := first | omega | assumption | exact shr_lt (by assumption) | exact ndiff32 (by assumption) | exact below_lt (by omega) | fail) only [wLen_slice, wNew_eq, wLd_3, forceV_eq, Yld.val]
  generalize hK : hs H nx (some (.cells [.int .i64 0, .int .i64 0, .int .i64 0] 0)) = K at hE1
  have kG : getH K nx = some (.cells [.int .i64 0, .int .i64 0, .int .i64 0] 0) := by rw [← hK, getH_same]
  refine wLoop_rule (m := n) (fun m L H' nx' => ∃ i : Nat, m + i = n ∧ L = [.int .i64 (i : Int)] ∧ (∀ v e : Nat, v < i → ¬ alone rest v e) ∧ K = H' ∧ nx + 1 = nx') ?_ ⟨0, rfl, rfl, fun e j h => by omega, rfl, rfl⟩
  rintro m ih L _ _ ⟨v, hm, rfl, hst, rfl, rfl⟩ hih
  simp (config := { maxSteps := 2000000 }) (disch := first | omega | assumption | exact shr_lt (by assumption) | exact ndiff32 (by assumption) | exact below_lt (by omega) | fail) only [List.getD_cons_zero, wBin_lss, wIf_bool, wBin_add64]
  by_cases hv : v < n
  case neg =>
    have hv' : ¬ (v : Int) < (n : Int) := by omega
    simp (config := { maxSteps := 2000000 }) (disch := first | omega | assumption | exact shr_lt (by assumption) | exact ndiff32 (by assumption) | exact below_lt (by omega) | fail) only [oneCells, ldP_cells, getH_same, decide_false, if_true, if_false, Bool.false_eq_true, Nat.zero_add, and_true, true_and, and_self, wSt_agg, stP_cells, List.length_cons, List.length_nil, Nat.le_refl, Nat.reduceAdd, hv', hb0, kG, putL_lit3, cellP_lit3]
    exact ⟨hE1.hs (by omega), .inr fun a b ha => hst a b (by omega)⟩
  have hv' : (v : Int) < (n : Int) := by omega
  simp (config := { maxSteps := 2000000 }) (disch := first | omega | assumption | exact shr_lt (by assumption) | exact ndiff32 (by assumption) | exact below_lt (by omega) | fail) only [decide_true, if_true, hv']
  refine wLoop_rule (m := rest.length) (fun m L H' nx' => ∃ i c e : Nat, m + i = rest.length ∧ c ≤ i ∧ L = [.int .i64 (c : Int), .int .i64 (e : Int), .int .i64 (i : Int)] ∧ CntI rest v i c e ∧ K = H' ∧ nx + 1 = nx') ?_ ⟨0, 0, 0, rfl, Nat.le_refl _, rfl, .inl ⟨rfl, fun j h => by omega⟩, rfl, rfl⟩
  rintro m3 ih3 L3 _ _ ⟨i, c, e, hm3, hci, rfl, hcnt, rfl, rfl⟩ hih3
  simp (config := { maxSteps := 2000000 }) (disch := first | omega | assumption | exact shr_lt (by assumption) | exact ndiff32 (by assumption) | exact below_lt (by omega) | fail) only [List.getD_cons_zero, List.getD_cons_succ, wBin_lss, wBin_eql, wIf_bool, wBin_add64]
  by_cases hi : i < rest.length
  case neg =>
    have hi' : ¬ (i : Int) < (rest.length : Int) := by omega
    have : i = rest.length := by omega
    subst this
    rcases cnt_end hcnt with ⟨h1, h2⟩ | ⟨h1, h2⟩
    · have d1 : decide ((c : Int) = 1) = true := by simp; omega
      simp (config := { maxSteps := 2000000 }) (disch := first | omega | assumption | exact shr_lt (by assumption) | exact ndiff32 (by assumption) | exact below_lt (by omega) | fail) only [oneCells, ldP_cells, getH_same, decide_false, if_true, if_false, Bool.false_eq_true, Nat.zero_add, true_and, and_self, wSt_agg, stP_cells, List.length_cons, List.length_nil, Nat.le_refl, Nat.reduceAdd, hi', d1, hb1, kG, putL_lit3, cellP_lit3]
      exact ⟨hE1.hs (by omega), .inl ⟨v, e, hv, h2, rfl⟩⟩
    · have d1 : decide ((c : Int) = 1) = false := by simp; omega
      simp (config := { maxSteps := 2000000 }) (disch := first | omega | assumption | exact shr_lt (by assumption) | exact ndiff32 (by assumption) | exact below_lt (by omega) | fail) only [decide_false, if_false, Bool.false_eq_true, hi', d1]
      refine hih (m - 1) _ _ _ (by omega) ⟨v + 1, by omega, by simp, fun a b ha => ?_, rfl, rfl⟩
      by_cases hav : a = v
      · subst hav; exact h2 b
      · exact hst a b (by omega)
  have hi' : (i : Int) < (rest.length : Int) := by omega
  obtain ⟨x, hx⟩ : ∃ x, rest[i]? = some x := ⟨_, List.getElem?_eq_getElem hi⟩
  obtain ⟨A, oA, rowA, rfl, _, hrowA, hgetA⟩ := (hA.ext hE1).open (i := i) (by rw [u32s_length]; omega)
  have gx := hgetA _ _ (u32s_get hx)
  have hx32 := hsm.get hx
  have hbit : bitAt rest v i = x.testBit v := by unfold bitAt; rw [hx]
  cases hb : x.testBit v with
  | true =>
    simp (config := { maxSteps := 2000000 }) (disch := first | omega | assumption | exact shr_lt (by assumption) | exact ndiff32 (by assumption) | exact below_lt (by omega) | fail) only [List.getD_cons_zero, List.getD_cons_succ, wBin_eql, wIf_bool, wLd_none, cellP_one, Option.elim_some, decide_true, if_true, wIdx_slice, Int.toNat_natCast, Nat.mul_one, bit_one, wBin_shr32, wBin_and1, hi', wJoin_eq, ldP_row hrowA, gx, hb]
    exact hih3 (m3 - 1) _ _ _ (by omega) ⟨i + 1, c + 1, i, by omega, by omega, by simp, cnt_yes hcnt (by rw [hbit, hb]), rfl, rfl⟩
  | false =>
    simp (config := { maxSteps := 2000000 }) (disch := first | omega | assumption | exact shr_lt (by assumption) | exact ndiff32 (by assumption) | exact below_lt (by omega) | fail) only [List.getD_cons_zero, List.getD_cons_succ, wBin_eql, wIf_bool, wLd_none, cellP_one, Option.elim_some, decide_true, if_true, if_false, Bool.false_eq_true, wIdx_slice, Int.toNat_natCast, Nat.mul_one, bit_one, wBin_shr32, wBin_and1, hi', wJoin_eq, ldP_row hrowA, gx, hb]
    exact hih3 (m3 - 1) _ _ _ (by omega) ⟨i + 1, c, e, by omega, by omega, by simp, cnt_no hcnt (by rw [hbit, hb]), rfl, rfl⟩
end Go.Proofs.Ytaieijjfabbfeaa

set_option linter.unusedSimpArgs false
set_option linter.unusedVariables false
set_option linter.unusedSectionVars false
namespace Go.Proofs.Ytaieijjfabbfeaa
open Go.Clo

/-- For every vertex of the edges, some edge that is not removed holds it and all its later neighbors; what is removed is empty. -/
structure Pol (order : List Nat) (rest : List Nat) (rem : List Bool) : Prop where
  gone : ∀ (e : Nat), rem[e]? = some true → ∀ v, bitAt rest v e = false
  top : ∀ (j v : Nat), order[j]? = some v → (∃ e, bitAt rest v e = true) → ∃ E, rem[E]? = some false ∧ bitAt rest v E = true ∧ ∀ (e w k : Nat), bitAt rest v e = true → bitAt rest w e = true → order[k]? = some w → j < k → bitAt rest w E = true

theorem bitAt_set {rest : List Nat} {e x v i : Nat} (he : e < rest.length) : bitAt (rest.set e x) v i = if i = e then x.testBit v else bitAt rest v i := by
  unfold bitAt
  rw [List.getElem?_set]
  by_cases h : e = i
  · subst h; rw [if_pos rfl, if_pos he, if_pos rfl]
  · rw [if_neg h, if_neg (fun g => h g.symm)]
theorem bitAt_lt {rest : List Nat} {v i : Nat} (h : bitAt rest v i = true) : i < rest.length := by
  unfold bitAt at h
  split at h
  · rename_i hx; exact lt_len hx
  · cases h

theorem Pol.absorb {order rest : List Nat} {rem : List Bool} {e i : Nat} (h : Pol order rest rem) (ha : absorbs rest rem e i) : Pol order (rest.set e 0) (rem.set e true) := by
  obtain ⟨hei, hre, hri, x, y, hx, hy, hxy⟩ := ha
  have hel := lt_len hx
  have hrl := lt_len hre
  have hsub : ∀ w, bitAt rest w e = true → bitAt rest w i = true := by
    intro w hw
    unfold bitAt at hw ⊢
    rw [hx] at hw; rw [hy]
    exact ndiff_zero.1 hxy w hw
  have hnew : ∀ u q, bitAt (rest.set e 0) u q = true → q ≠ e ∧ bitAt rest u q = true := by
    intro u q hq
    rw [bitAt_set hel] at hq
    by_cases hqe : q = e
    · rw [if_pos hqe] at hq; simp at hq
    · rw [if_neg hqe] at hq; exact ⟨hqe, hq⟩
  have hkeep : ∀ u q, q ≠ e → bitAt rest u q = true → bitAt (rest.set e 0) u q = true := by
    intro u q hq hb
    rw [bitAt_set hel, if_neg hq]; exact hb
  refine ⟨fun q hq v => ?_, fun j v hj ⟨q, hq⟩ => ?_⟩
  · rw [bitAt_set hel]
    by_cases hqe : q = e
    · rw [if_pos hqe]; simp
    · rw [if_neg hqe]
      rw [List.getElem?_set, if_neg (fun g => hqe g.symm)] at hq
      exact h.gone q hq v
  · obtain ⟨E, hE1, hE2, hE3⟩ := h.top j v hj ⟨q, (hnew v q hq).2⟩
    by_cases hEe : E = e
    · subst hEe
      refine ⟨i, ?_, hkeep v i (fun g => hei g.symm) (hsub v hE2), fun q' w k h1 h2 h3 h4 => hkeep w i (fun g => hei g.symm) (hsub w (hE3 q' w k (hnew v q' h1).2 (hnew w q' h2).2 h3 h4))⟩
      rw [List.getElem?_set, if_neg hei]; exact hri
    · refine ⟨E, ?_, hkeep v E hEe hE2, fun q' w k h1 h2 h3 h4 => hkeep w E hEe (hE3 q' w k (hnew v q' h1).2 (hnew w q' h2).2 h3 h4)⟩
      rw [List.getElem?_set, if_neg (fun g => hEe g.symm)]; exact hE1

theorem isolate_bit {rest : List Nat} {v0 e0 x : Nat} (ha : alone rest v0 e0) (hx : rest[e0]? = some x) (u q : Nat) : bitAt (rest.set e0 (ndiff x (2 ^ v0))) u q = (bitAt rest u q && decide (u ≠ v0)) := by
  rw [bitAt_set (lt_len hx)]
  by_cases hq : q = e0
  · subst hq
    have : bitAt rest u q = x.testBit u := by unfold bitAt; rw [hx]
    rw [if_pos rfl, this, ndiff_bit, Nat.testBit_two_pow]
    have : decide (v0 = u) = decide (u = v0) := by congr 1; apply propext; exact eq_comm
    rw [this]; simp
  · rw [if_neg hq]
    by_cases hu : u = v0
    · subst hu; rw [ha.2 q hq]; rfl
    · simp [hu]
theorem Pol.isolate {order rest : List Nat} {rem : List Bool} {v0 e0 x : Nat} (h : Pol order rest rem) (ha : alone rest v0 e0) (hx : rest[e0]? = some x) : Pol order (rest.set e0 (ndiff x (2 ^ v0))) rem := by
  refine ⟨fun q hq v => ?_, fun j v hj ⟨q, hq⟩ => ?_⟩
  · rw [isolate_bit ha hx, h.gone q hq v]; rfl
  · simp only [isolate_bit ha hx, Bool.and_eq_true, decide_eq_true_eq] at hq ⊢
    obtain ⟨E, hE1, hE2, hE3⟩ := h.top j v hj ⟨q, hq.1⟩
    exact ⟨E, hE1, ⟨hE2, hq.2⟩, fun q' w k h1 h2 h3 h4 => ⟨hE3 q' w k h1.1 h2.1 h3 h4, h2.2⟩⟩

/-- Where no step applies, no edge holds a vertex. -/
theorem stuck {order rest : List Nat} {rem : List Bool} {n : Nat} (h : Pol order rest rem) (hall : ∀ v, v < n → ∃ k : Nat, order[k]? = some v) (hlt : ∀ v e, bitAt rest v e = true → v < n) (hrl : rem.length = rest.length)
    (hna : ∀ e i, ¬ absorbs rest rem e i) (hni : ∀ v e, v < n → ¬ alone rest v e) : ∀ (j v : Nat), order[j]? = some v → ∀ e, bitAt rest v e = false := by
  intro j
  induction j using Nat.strongRecOn with
  | ind j ih =>
    intro v hj e
    rw [Bool.eq_false_iff]
    intro he
    obtain ⟨E, hE1, hE2, hE3⟩ := h.top j v hj ⟨e, he⟩
    refine hni v E (hlt v e he) ⟨hE2, fun q hq => ?_⟩
    rw [Bool.eq_false_iff]
    intro hb
    have hql := bitAt_lt hb
    have hEl := bitAt_lt hE2
    have hrq : rem[q]? = some false := by
      obtain ⟨c, hc⟩ : ∃ c, rem[q]? = some c := ⟨_, List.getElem?_eq_getElem (by omega)⟩
      cases c with
      | false => exact hc
      | true => rw [h.gone q hc v] at hb; cases hb
    refine hna q E ⟨hq, hrq, hE1, _, _, List.getElem?_eq_getElem hql, List.getElem?_eq_getElem hEl, ndiff_zero.2 fun w hw => ?_⟩
    have hwq : bitAt rest w q = true := by unfold bitAt; rw [List.getElem?_eq_getElem hql]; exact hw
    have hwE : bitAt rest w E = true := by
      obtain ⟨k, hk⟩ := hall w (hlt w q hwq)
      rcases Nat.lt_trichotomy k j with g | g | g
      · rw [ih k g w hk q] at hwq; cases hwq
      · subst g; rw [hj] at hk; cases hk; exact hE2
      · exact hE3 q w k hb hwq hk g
    unfold bitAt at hwE
    rw [List.getElem?_eq_getElem hEl] at hwE
    exact hwE
end Go.Proofs.Ytaieijjfabbfeaa

set_option linter.unusedSimpArgs false
set_option linter.unusedVariables false
set_option linter.unusedSectionVars false
namespace Go.Proofs.Ytaieijjfabbfeaa
open Go.Clo

theorem wApp_empty {H : Heap} {nx b size bytes m : Nat} {x : Value} {l : List Value} (hg : getH H b = some (.cells [] 0)) (hx : Src H size x m l) (hm : 0 < m) (ho : oneCells l = true) (hb1 : (2 * m + 1000) * bytes ≤ 281474976710656) (hb2 : m ≤ 1000000000) (k : EP) :
    wApp (.slice (some ⟨b, 0, none⟩) 0 0) x size bytes H nx k = k (.slice (some ⟨nx, 0, none⟩) m m) (hs H nx (some (.cells l size))) (nx + 1) := by
  unfold wApp appK
  rw [hx.len]
  dsimp only
  rw [Nat.zero_add, forceN_eq, bltrue hb1, bltrue hb2]
  simp only [Bool.and_self, cond_true]
  rw [hx.first, ho, blfalse hm]
  simp only [cond_true, cond_false]
  have hold : ∀ k : List Value → Prop, firstK H size 0 (.slice (some ⟨b, 0, none⟩) 0 0) False k = k [] := by
    intro k
    unfold firstK rowK
    dsimp only
    rw [getB_eq, hg]
    simp only [Option.elim_some, Nat.zero_mul, takeN]
    exact spine_eq _ _
  rw [hold, spine_eq, List.nil_append, hx.size, beqtrue]
  simp only [cond_true, appOut]
  rw [getB_eq, hg]
  have hls : looseA (.cells [] 0) 0 0 size = some false := rfl
  simp only [Option.elim_some, hls, appNew]
  rw [forceN_eq, forceN_eq, hsK_eq]

theorem clone53 (b o : Nat) (es : List Nat) (cap : Nat) (H : Heap) (nx : Nat) (hS : Sl H nx (some ⟨b, o, none⟩) (u32s es)) (h0 : 0 < es.length) (hl : es.length ≤ 64) :
    Ans Try.prog 53 [.slice (some ⟨b, o, none⟩) es.length cap] H nx fun r H' nx' => ∃ q, nx ≤ q ∧ q < nx' ∧ r = .slice (some ⟨q, 0, none⟩) es.length es.length ∧ getH H' q = some (.cells (u32s es) 1) ∧ Ext H nx H' nx' := by
  refine spec53 ?_
  unfold F53
  have e1 : ∀ k, wVf (.eqn false (.slice 41)) [.slice (some ⟨b, o, none⟩) es.length cap, .slice none 0 0] k = k (.bool false) := by
    intro k
    have e : VF.ev (.eqn false (.slice 41)) [.slice (some ⟨b, o, none⟩) es.length cap, .slice none 0 0] = some (.bool false) := rfl
    unfold wVf
    rw [e, optK_eq]; rfl
  have e2 : ∀ k, dBsl 0 1 [.int .u32 0] [] k = k [] := fun k => rfl
  simp (disch := first | omega | assumption | exact shr_lt (by assumption) | exact ndiff32 (by assumption) | exact below_lt (by omega) | fail) only [wIf_bool, wNew_eq, forceV_eq, Yld.val, if_false, Bool.false_eq_true, e1, e2]
  have hE1 : Ext H nx (hs H nx (some (.cells [] 0))) (nx + 1) := (Ext.refl H nx).new _ (Nat.le_refl _) (by omega)
  rw [wApp_empty (getH_same _ _ _) (src_sl (hS.ext hE1) (by rw [u32s_length, Nat.mul_one]) (by omega)) h0 (oneCells_u32s es) (by omega) (by omega)]
  exact ⟨nx + 1, by omega, by omega, rfl, by rw [getH_same], hE1.new _ (by omega) (by omega)⟩
end Go.Proofs.Ytaieijjfabbfeaa

set_option linter.unusedSimpArgs false
set_option linter.unusedVariables false
set_option linter.unusedSectionVars false
namespace Go.Proofs.Ytaieijjfabbfeaa
open Go.Clo

theorem repeat_bool : ∀ n : Nat, repeatA [.bool false] n = bools (List.replicate n false)
  | 0 => rfl
  | n + 1 => by rw [repeatA, repeat_bool n]; rfl
theorem putL_bools {l : List Bool} {i : Nat} {x : Bool} (h : i < l.length) : putL (bools l) i [.bool x] = bools (l.set i x) := by rw [putL_get (by rw [bools_length]; exact h)]; simp [bools, List.map_set]

theorem putL_zero {l : List Nat} {i : Nat} (h : i < l.length) : putL (u32s l) i [.int .u32 0] = u32s (l.set i 0) := putL_u32s (x := 0) h
theorem _root_.Go.Clo.Acc.more {lo : Nat} {H : Heap} {nx nx' size : Nat} {v : Value} {n : Nat} {c : List Value} (h : Acc lo H nx size v n c) (hle : nx ≤ nx') : Acc lo H nx' size v n c :=
  ⟨h.1, h.2.imp id fun ⟨b, h1, h2, h3, h4⟩ => ⟨b, h1, by omega, h3, h4⟩⟩
/-- A block of another is written. -/
theorem _root_.Go.Clo.Acc.hs' {lo : Nat} {H : Heap} {nx size : Nat} {v : Value} {n : Nat} {c : List Value} (h : Acc lo H nx size v n c) {i : Nat} {x : Option Blk} (hi : i < lo ∨ nx ≤ i) : Acc lo (hs H i x) nx size v n c :=
  ⟨h.1, h.2.imp id fun ⟨b, h1, h2, h3, h4⟩ => ⟨b, h1, h2, h3, by rw [getH_ne _ (by omega)]; exact h4⟩⟩

/-! The measure. -/
def pairs (rest : List Nat) : Nat := (List.range 2048).countP fun p => bitAt rest (p % 32) (p / 32)
def mu (rest : List Nat) (rem : List Bool) : Nat := pairs rest + rem.countP (!·)
theorem countP_le {α : Type} {p q : α → Bool} : ∀ {l : List α}, (∀ x ∈ l, q x = true → p x = true) → l.countP q ≤ l.countP p
  | [], _ => Nat.le_refl _
  | a :: l, h => by
    have ih := countP_le (p := p) (q := q) (l := l) fun x hx => h x (List.mem_cons_of_mem _ hx)
    rw [List.countP_cons, List.countP_cons]
    have := h a List.mem_cons_self
    cases hq : q a <;> cases hp : p a <;> simp_all <;> omega
theorem countP_lt {α : Type} {p q : α → Bool} {a : α} : ∀ {l : List α}, (∀ x ∈ l, q x = true → p x = true) → a ∈ l → p a = true → q a = false → l.countP q < l.countP p
  | b :: l, h, ha, hp, hq => by
    have hle := countP_le (p := p) (q := q) (l := l) fun x hx => h x (List.mem_cons_of_mem _ hx)
    rw [List.countP_cons, List.countP_cons]
    rcases List.mem_cons.1 ha with rfl | ha
    · simp [hp, hq]; omega
    · have ih := countP_lt (p := p) (q := q) (l := l) (fun x hx => h x (List.mem_cons_of_mem _ hx)) ha hp hq
      have := h b List.mem_cons_self
      cases hqb : q b <;> cases hpb : p b <;> simp_all <;> omega
theorem count_set {rem : List Bool} {e : Nat} (h : rem[e]? = some false) : (rem.set e true).countP (!·) + 1 = rem.countP (!·) := by
  induction rem generalizing e with
  | nil => simp at h
  | cons b l ih =>
    cases e with
    | zero =>
      simp at h; subst h
      simp
    | succ e =>
      have := ih (e := e) (by simpa using h)
      rw [List.set_cons_succ, List.countP_cons, List.countP_cons]; omega
theorem mu_le (rest : List Nat) (rem : List Bool) : mu rest rem ≤ 2048 + rem.length := by
  unfold mu pairs
  have h1 := List.countP_le_length (p := fun p => bitAt rest (p % 32) (p / 32)) (l := List.range 2048)
  have h2 := List.countP_le_length (p := fun b : Bool => !b) (l := rem)
  rw [List.length_range] at h1
  omega
theorem mu_absorb {rest : List Nat} {rem : List Bool} {e : Nat} (he : e < rest.length) (h : rem[e]? = some false) : mu (rest.set e 0) (rem.set e true) < mu rest rem := by
  have h1 := count_set h
  have h2 : pairs (rest.set e 0) ≤ pairs rest := countP_le fun p _ hp => by
    rw [bitAt_set he] at hp
    split at hp
    · simp at hp
    · exact hp
  unfold mu; omega
theorem mu_isolate {rest : List Nat} {rem : List Bool} {v e x : Nat} (hl : rest.length ≤ 64) (hv : v < 32) (ha : alone rest v e) (hx : rest[e]? = some x) : mu (rest.set e (ndiff x (2 ^ v))) rem < mu rest rem := by
  have hel := lt_len hx
  have h2 : pairs (rest.set e (ndiff x (2 ^ v))) < pairs rest := by
    have q1 : (e * 32 + v) % 32 = v := by omega
    have q2 : (e * 32 + v) / 32 = e := by omega
    refine countP_lt (a := e * 32 + v) (fun p _ hp => ?_) (List.mem_range.2 (by omega)) ?_ ?_
    · rw [isolate_bit ha hx, Bool.and_eq_true] at hp; exact hp.1
    · rw [q1, q2]; exact ha.1
    · rw [isolate_bit ha hx, q1, q2]; simp
  unfold mu; omega

/-- What the loop of Reduce keeps. -/
structure RedI (n : Nat) (order rest : List Nat) (rem : List Bool) : Prop where
  pol : Pol order rest rem
  len : rem.length = rest.length
  bits : ∀ v e, bitAt rest v e = true → v < n
  small : Small rest
theorem bits_small {n : Nat} {rest : List Nat} (hn : n ≤ 32) (h : ∀ v e, bitAt rest v e = true → v < n) : Small rest := by
  intro x hx
  obtain ⟨i, hi⟩ := List.getElem?_of_mem hx
  refine Nat.lt_of_lt_of_le (Nat.lt_pow_two_of_testBit (n := n) x fun v hv => ?_) (Nat.le_trans (Nat.pow_le_pow_right (by omega) hn) (by decide))
  rw [Bool.eq_false_iff]
  intro hb
  have := h v i (by unfold bitAt; rw [hi]; exact hb)
  omega
theorem RedI.absorb {n : Nat} {order rest : List Nat} {rem : List Bool} (hn : n ≤ 32) (h : RedI n order rest rem) {e i : Nat} (ha : absorbs rest rem e i) : RedI n order (rest.set e 0) (rem.set e true) := by
  have hel : e < rest.length := by obtain ⟨_, _, _, x, _, hx, _⟩ := ha; exact lt_len hx
  have hb : ∀ v q, bitAt (rest.set e 0) v q = true → v < n := fun v q hq => by
    rw [bitAt_set hel] at hq
    split at hq
    · simp at hq
    · exact h.bits v q hq
  exact ⟨h.pol.absorb ha, by simp [h.len], hb, bits_small hn hb⟩
theorem RedI.isolate {n : Nat} {order rest : List Nat} {rem : List Bool} (hn : n ≤ 32) (h : RedI n order rest rem) {v e x : Nat} (ha : alone rest v e) (hx : rest[e]? = some x) : RedI n order (rest.set e (ndiff x (2 ^ v))) rem := by
  have hb : ∀ u q, bitAt (rest.set e (ndiff x (2 ^ v))) u q = true → u < n := fun u q hq => by
    rw [isolate_bit ha hx, Bool.and_eq_true] at hq
    exact h.bits u q hq.1
  exact ⟨h.pol.isolate ha hx, by simp [h.len], hb, bits_small hn hb⟩
theorem RedI.stop {n : Nat} {order rest : List Nat} {rem : List Bool} (h : RedI n order rest rem) (hall : ∀ v, v < n → ∃ k : Nat, order[k]? = some v) (hna : ∀ e i, ¬ absorbs rest rem e i) (hni : ∀ v e, v < n → ¬ alone rest v e) : ∀ x ∈ rest, x = 0 := by
  have hs := stuck h.pol hall h.bits h.len hna hni
  intro x hx
  obtain ⟨i, hi⟩ := List.getElem?_of_mem hx
  apply Nat.eq_of_testBit_eq
  intro v
  rw [Nat.zero_testBit, Bool.eq_false_iff]
  intro hb
  have h1 : bitAt rest v i = true := by unfold bitAt; rw [hi]; exact hb
  obtain ⟨k, hk⟩ := hall v (h.bits v i h1)
  rw [hs k v hk i] at h1; cases h1

theorem sl_cells {H : Heap} {nx b : Nat} {c : List Value} {s : Nat} (h : getH H b = some (.cells c s)) (hb : b < nx) : Sl H nx (some ⟨b, 0, none⟩) c :=
  fun i v hv => ⟨b, 0, c, rfl, hb, by simp [rowOf, h, Blk.row], by simpa using hv⟩

set_option maxHeartbeats 4000000 in
theorem reduce38 {n : Nat} (hn : n ≤ 32) (b o : Nat) (es : List Nat) (cap : Nat) (order : List Nat) (H : Heap) (nx : Nat) (hS : Sl H nx (some ⟨b, o, none⟩) (u32s es)) (hsm : Small es) (h0 : 0 < es.length) (hl : es.length ≤ 64) (hg : gcode n es = 0)
    (hI : RedI n order es (List.replicate es.length false)) (hall : ∀ v, v < n → ∃ k : Nat, order[k]? = some v) :
    Ans Try.prog 38 [gv n (some ⟨b, o, none⟩) es.length cap] H nx fun r H' nx' => Ext H nx H' nx' ∧ ∃ (steps : Value) (A : Option Addr) (rest : List Nat), r = .tuple ⟨[steps, .slice A rest.length rest.length]⟩ ∧ rest.length ≤ 64 ∧ Sl H' nx' A (u32s rest) ∧ ∀ x ∈ rest, x = 0 := by
  refine spec38 ?_
  unfold F38
  have hE1 : Ext H nx (hs H nx (some (.cells [.int .i64 (n : Int), .slice (some ⟨b, o, none⟩) es.length cap] 0))) (nx + 1) := (Ext.refl H nx).new _ (Nat.le_refl _) (by omega)
  simp only [gv]
  simp (config := { maxSteps := 2000000 }) (disch := first | omega | assumption | exact shr_lt (by assumption) | exact ndiff32 (by assumption) | exact below_lt (by omega) | fail) only [wFld_eq, wNew_eq, dBox_agg, oneCells, wLd_none, wLd_2, wLd_3, ldP_cells, getH_same, forceV_eq, forceN_eq, Yld.val, if_true, Nat.zero_add, Nat.add_zero, and_true, true_and, or_false, cellP_lit2]
  generalize hK : hs H nx (some (.cells [.int .i64 (n : Int), .slice (some ⟨b, o, none⟩) es.length cap] 0)) = K at hE1
  have kG : getH K nx = some (.cells [.int .i64 (n : Int), .slice (some ⟨b, o, none⟩) es.length cap] 0) := by rw [← hK, getH_same]
  refine wCall_rule (check37 n (some ⟨b, o, none⟩) es cap K (nx + 1) (hS.ext hE1) hsm) ?_
  rintro _ H2 nx2 ⟨rfl, hE2⟩
  have d0 : decide ((0 : Int) ≠ 0) = false := by simp
  have hEE2 := hE1.trans hE2
  have kG2 := (hE2.get nx (by omega)).trans kG
  rw [hg]
  simp (config := { maxSteps := 2000000 }) (disch := first | omega | assumption | exact shr_lt (by assumption) | exact ndiff32 (by assumption) | exact below_lt (by omega) | fail) only [wBin_neq, wIf_bool, ldP_cells, cellP_one, Option.elim_some, List.getElem?_cons_zero, List.getElem?_cons_succ, if_false, Bool.false_eq_true, d0, kG2]
  refine wCall_rule (clone53 b o es cap H2 nx2 (hS.ext hEE2) h0 hl) ?_
  rintro _ H3 nx3 ⟨q, hq1, hq2, rfl, hq3, hE3⟩
  have hl6 : es.length ≤ 1000000 := by omega
  have hnx2 := hE2.le
  have hnx3 := hE3.le
  simp (config := { maxSteps := 2000000 }) (disch := first | omega | assumption | exact shr_lt (by assumption) | exact ndiff32 (by assumption) | exact below_lt (by omega) | fail) only [wLen_slice, dMsl_eq hl6, repeat_bool]
  generalize hK4 : hs H3 nx3 (some (.cells (bools (List.replicate es.length false)) 0)) = K4
  have hE4 : Ext H3 nx3 K4 (nx3 + 1) := by rw [← hK4]; exact (Ext.refl H3 nx3).new _ (Nat.le_refl _) (by omega)
  have hEE4 := (hEE2.trans hE3).trans hE4
  refine wLoop_rule (m := mu es (List.replicate es.length false)) (fun m L H' nx' => ∃ (rest : List Nat) (rem : List Bool) (cnt : Nat) (c : List Value) (v : Value), mu rest rem = m ∧ m + cnt ≤ 2112 ∧ L = [v] ∧ Acc (nx3 + 1) H' nx' 3 v cnt c ∧ Ext H nx H' nx' ∧ nx3 + 1 ≤ nx' ∧
      getH H' nx = some (.cells [.int .i64 (n : Int), .slice (some ⟨b, o, none⟩) es.length cap] 0) ∧ getH H' q = some (.cells (u32s rest) 1) ∧ getH H' nx3 = some (.cells (bools rem) 0) ∧ rest.length = es.length ∧ RedI n order rest rem) ?_
    ⟨es, List.replicate es.length false, 0, [], _, rfl, by have := mu_le es (List.replicate es.length false); simp at this; omega, rfl, Acc.nil _ _ _ _, hEE4, Nat.le_refl _, (hE4.get nx (by omega)).trans ((hE3.get nx (by omega)).trans kG2), (hE4.get q hq2).trans hq3, by rw [← hK4, getH_same], rfl, hI⟩
  rintro m ih L H5 nx5 ⟨rest, rem, cnt, c, v, hmu, hcnt, rfl, hA, hE5, hx5, g1, gq, gr, hlen, hR⟩ hih
  simp (config := { maxSteps := 2000000 }) (disch := first | omega | assumption | exact shr_lt (by assumption) | exact ndiff32 (by assumption) | exact below_lt (by omega) | fail) only [List.getD_cons_zero]
  have eB : ∀ (x y z : Int) k, dBsl 1 3 [.int .i64 0, .int .i64 0, .int .i64 0] [(0, .agg ⟨[.int .i64 x, .int .i64 y, .int .i64 z]⟩)] k = k [.int .i64 x, .int .i64 y, .int .i64 z] := fun _ _ _ _ => rfl
  have hsq : Sl H5 nx5 (some ⟨q, 0, none⟩) (u32s rest) := sl_cells gq (by omega)
  have hsr : Sl H5 nx5 (some ⟨nx3, 0, none⟩) (bools rem) := sl_cells gr (by omega)
  have h54 := absorb54 (some ⟨q, 0, none⟩) (some ⟨nx3, 0, none⟩) rest rem es.length es.length H5 nx5 hsq hsr hR.len (by omega) hR.small
  rw [hR.len, hlen] at h54
  refine wCall_rule h54 ?_
  rintro _ H6 nx6 ⟨hE6, h⟩
  have hx6 := hE6.le
  have g16 := (hE6.get nx (by omega)).trans g1
  have gq6 := (hE6.get q (by omega)).trans gq
  have gr6 := (hE6.get nx3 (by omega)).trans gr
  have hA6 := hA.ext hE6
  have hEE6 := hE5.trans hE6
  -- behind a step: the list of steps grows
  have next : ∀ (rest' : List Nat) (rem' : List Bool) (H8 : Heap) (nx8 : Nat) (x y z : Int), mu rest' rem' < m → rest'.length = es.length → RedI n order rest' rem' → Acc (nx3 + 1) H8 nx8 3 v cnt c → Ext H nx H8 nx8 → nx3 + 1 ≤ nx8 →
      getH H8 nx = some (.cells [.int .i64 (n : Int), .slice (some ⟨b, o, none⟩) es.length cap] 0) → getH H8 q = some (.cells (u32s rest') 1) → getH H8 nx3 = some (.cells (bools rem') 0) →
      wApp v (.slice (some ⟨nx8, 0, none⟩) 1 1) 3 24 (hs H8 nx8 (some (.cells [.int .i64 x, .int .i64 y, .int .i64 z] 0))) (nx8 + 1) fun t56_50 H17 nx17 => ih [t56_50] H17 nx17 := by
    intro rest' rem' H8 nx8 x y z hm8 hl8 hR8 hA8 hE8 hx8 g18 gq8 gr8
    have hE9 : Ext H8 nx8 (hs H8 nx8 (some (.cells [.int .i64 x, .int .i64 y, .int .i64 z] 0))) (nx8 + 1) := (Ext.refl H8 nx8).new _ (Nat.le_refl _) (by omega)
    refine wApp_acc (H0 := hs H8 nx8 (some (.cells [.int .i64 x, .int .i64 y, .int .i64 z] 0))) (by omega) (hA8.ext hE9) (src_new (getH_same _ _ _) rfl (by omega)) (by omega) rfl (by omega) (by omega) (Ext.self (by omega)) (by omega) ?_
    intro v' H' hA' hE' hsame
    refine hih (mu rest' rem') _ _ _ hm8 ⟨rest', rem', cnt + 1, _, v', rfl, by omega, rfl, hA', ?_, by omega, ?_, ?_, ?_, hl8, hR8⟩
    · exact ⟨by have := hE8.le; omega, fun i hi => by rw [hE'.get i (by omega), hE9.get i (by have := hE8.le; omega)]; exact hE8.get i hi⟩
    · rw [hE'.get nx (by omega), hE9.get nx (by omega)]; exact g18
    · rw [hE'.get q (by omega), hE9.get q (by omega)]; exact gq8
    · rw [hE'.get nx3 (by omega), hE9.get nx3 (by omega)]; exact gr8
  rcases h with ⟨e, i, ha, rfl⟩ | ⟨hna, rfl⟩
  · -- absorb
    have hel : e < rest.length := by obtain ⟨_, _, _, x, _, hx, _⟩ := ha; exact lt_len hx
    have her : e < rem.length := lt_len ha.2.1
    have q1 : e + 1 ≤ (u32s rest).length := by rw [u32s_length]; omega
    have q2 : e + 1 ≤ (bools rem).length := by rw [bools_length]; omega
    have q3 : e < es.length := by omega
    have n1 : q ≠ nx6 := by omega
    have n2 : nx3 ≠ nx6 := by omega
    have n3 : q ≠ nx3 := by omega
    have n4 : nx ≠ nx6 := by omega
    have n5 : nx ≠ q := by omega
    have n6 : nx ≠ nx3 := by omega
    simp (config := { maxSteps := 2000000 }) (disch := first | omega | assumption | exact shr_lt (by assumption) | exact ndiff32 (by assumption) | exact below_lt (by omega) | fail) only [wIf_bool, wExt_eq, oneCells, ldP_cells, cellP_one, getH_same, Option.elim_some, List.getElem?_cons_zero, List.getElem?_cons_succ, if_true, Nat.zero_add, true_and, and_self, wIdx_slice, Int.toNat_natCast, Nat.mul_one, wSt_agg, wSt_int, wSt_bool, stP_cells, List.length_cons, List.length_nil, Nat.le_refl, Nat.reduceAdd, wJoin_eq, putL_lit3, gq6, gr6, q1, q2, getH_ne _ n1, getH_ne _ n2, getH_ne _ n3.symm, getH_ne _ n1.symm, getH_ne _ n2.symm, cellP_lit3, putL_zero hel, putL_bools her, eB]
    refine next (rest.set e 0) (rem.set e true) _ _ _ _ _ (by rw [← hmu]; exact mu_absorb hel ha.2.1) (by simp [hlen]) (hR.absorb hn ha) ((((hA6.hs' (.inr (Nat.le_refl _))).hs' (.inr (Nat.le_refl _))).hs' (.inl (by omega))).hs' (.inl (by omega)) |>.more (by omega)) ((((hEE6.new _ (by omega) (by omega)).hs (by omega)).hs (by omega)).hs (by omega)) (by omega) ?_ ?_ ?_
    · rw [getH_ne _ n6, getH_ne _ n5, getH_ne _ n4, getH_ne _ n4]; exact g16
    · rw [getH_ne _ n3, getH_same]
    · rw [getH_same]
  · -- isolate
    have n1 : q ≠ nx6 := by omega
    have n2 : nx3 ≠ nx6 := by omega
    have n3 : q ≠ nx3 := by omega
    have n4 : nx ≠ nx6 := by omega
    have n5 : nx ≠ q := by omega
    have hE7 : Ext H6 nx6 (hs (hs H6 nx6 (some (.cells [.int .i64 0, .int .i64 0, .int .i64 0] 0))) nx6 (some (.cells [.int .i64 0, .int .i64 0, .int .i64 0] 0))) (nx6 + 1) := ((Ext.refl H6 nx6).new _ (Nat.le_refl _) (by omega)).hs (Nat.le_refl _)
    generalize hK7 : hs (hs H6 nx6 (some (.cells [.int .i64 0, .int .i64 0, .int .i64 0] 0))) nx6 (some (.cells [.int .i64 0, .int .i64 0, .int .i64 0] 0)) = K7 at hE7
    have k7 : getH K7 nx6 = some (.cells [.int .i64 0, .int .i64 0, .int .i64 0] 0) := by rw [← hK7, getH_same]
    have g17 := (hE7.get nx (by omega)).trans g16
    have gq7 := (hE7.get q (by omega)).trans gq6
    have gr7 := (hE7.get nx3 (by omega)).trans gr6
    simp (config := { maxSteps := 2000000 }) (disch := first | omega | assumption | exact shr_lt (by assumption) | exact ndiff32 (by assumption) | exact below_lt (by omega) | fail) only [wIf_bool, wExt_eq, oneCells, ldP_cells, cellP_one, getH_same, getH_ne, Option.elim_some, List.getElem?_cons_zero, List.getElem?_cons_succ, if_true, if_false, Bool.false_eq_true, Nat.zero_add, true_and, and_self, wSt_agg, stP_cells, List.length_cons, List.length_nil, Nat.le_refl, Nat.reduceAdd, wJoin_eq, putL_lit3, hK7, g16]
    have h55 := isolate55 hn (some ⟨q, 0, none⟩) rest es.length K7 (nx6 + 1) (sl_cells gq7 (by omega)) (by omega) hR.small
    rw [hlen] at h55
    refine wCall_rule h55 ?_
    rintro _ H8 nx8 ⟨hE8, h⟩
    have hx8 := hE8.le
    have k8 := (hE8.get nx6 (by omega)).trans k7
    have g18 := (hE8.get nx (by omega)).trans g17
    have gq8 := (hE8.get q (by omega)).trans gq7
    have gr8 := (hE8.get nx3 (by omega)).trans gr7
    have hA8 : Acc (nx3 + 1) H8 nx6 3 v cnt c := hA6.ext ⟨Nat.le_refl _, (hE7.trans hE8).get⟩
    have hEE8 := (hEE6.trans hE7).trans hE8
    rcases h with ⟨v0, e, hv0, ha, rfl⟩ | ⟨hni, rfl⟩
    · have hel := bitAt_lt ha.1
      obtain ⟨x, hx⟩ : ∃ x, rest[e]? = some x := ⟨_, List.getElem?_eq_getElem hel⟩
      have q1 : e + 1 ≤ (u32s rest).length := by rw [u32s_length]; omega
      have hx32 := hR.small.get hx
      have hp32 : 2 ^ v0 < 4294967296 := pow32 (by omega)
      simp (config := { maxSteps := 2000000 }) (disch := first | omega | assumption | exact shr_lt (by assumption) | exact ndiff32 (by assumption) | exact below_lt (by omega) | fail) only [wIf_bool, wExt_eq, oneCells, wLd_none, ldP_cells, cellP_one, getH_same, Option.elim_some, List.getElem?_cons_zero, List.getElem?_cons_succ, if_true, Nat.zero_add, and_true, true_and, and_self, wIdx_slice, Int.toNat_natCast, Nat.mul_one, wSt_agg, wSt_int, stP_cells, wBin_andNot32, wBin_shl32, List.length_cons, List.length_nil, Nat.le_refl, Nat.reduceAdd, k8, putL_lit3, getH_ne _ n1, gq8, u32s_get hx, getH_ne _ n1.symm, q1, putL_u32s hel, cellP_lit3, eB]
      refine next (rest.set e (ndiff x (2 ^ v0))) rem _ _ _ _ _ (by rw [← hmu]; exact mu_isolate (by omega) (by omega) ha hx) (by simp [hlen]) (hR.isolate hn ha hx) (((hA8.hs' (.inr (Nat.le_refl _))).hs' (.inl (by omega))).more (by omega)) (((hEE8.more (by omega)).hs (by omega)).hs (by omega)) (by omega) ?_ ?_ ?_
      · rw [getH_ne _ n5, getH_ne _ n4]; exact g18
      · rw [getH_same]
      · rw [getH_ne _ n3.symm, getH_ne _ n2]; exact gr8
    · simp (config := { maxSteps := 2000000 }) (disch := first | omega | assumption | exact shr_lt (by assumption) | exact ndiff32 (by assumption) | exact below_lt (by omega) | fail) only [wIf_bool, wExt_eq, oneCells, Option.elim_some, List.getElem?_cons_zero, List.getElem?_cons_succ, if_true, if_false, Bool.false_eq_true, Nat.zero_add, true_and, and_self, wSt_agg, stP_cells, List.length_cons, List.length_nil, Nat.le_refl, Nat.reduceAdd, k8, putL_lit3]
      exact ⟨hEE8.hs (by omega), v, some ⟨q, 0, none⟩, rest, by rw [hlen], by omega, sl_cells (s := 1) (by rw [getH_ne _ n1]; exact gq8) (by omega), hR.stop hall hna hni⟩
end Go.Proofs.Ytaieijjfabbfeaa

set_option linter.unusedSimpArgs false
set_option linter.unusedVariables false
set_option linter.unusedSectionVars false
namespace Go.Proofs.Ytaieijjfabbfeaa
open Go.Clo

def upFrom (f : Nat) : Nat → List Int
  | 0 => []
  | c + 1 => upFrom f c ++ [((f + c : Nat) : Int)]
theorem upFrom_len (f : Nat) : ∀ c, (upFrom f c).length = c
  | 0 => rfl
  | c + 1 => by simp [upFrom, upFrom_len f c]
theorem upFrom_mem {f : Nat} {x : Int} : ∀ {c : Nat}, x ∈ upFrom f c → (f : Int) ≤ x ∧ x < ((f + c : Nat) : Int)
  | 0, h => by simp [upFrom] at h
  | c + 1, h => by
    simp only [upFrom, List.mem_append, List.mem_singleton] at h
    rcases h with h | rfl
    · have := upFrom_mem h; omega
    · omega
theorem upFrom_nd (f : Nat) : ∀ c, (upFrom f c).Nodup
  | 0 => by simp [upFrom]
  | c + 1 => by
    rw [upFrom, List.nodup_append]
    refine ⟨upFrom_nd f c, by simp, fun a ha b hb => ?_⟩
    simp at hb; subst hb
    have := upFrom_mem ha; omega
theorem upFrom_perm (f c : Nat) : permOK (upFrom f c) f (f + c) := ⟨by rw [upFrom_len]; omega, fun x hx => upFrom_mem hx, upFrom_nd f c⟩
theorem permOK_perm {l l' : List Int} {f n : Nat} (h : permOK l f n) (hp : l'.Perm l) : permOK l' f n := ⟨by rw [hp.length_eq]; exact h.1, fun x hx => h.2.1 x (hp.mem_iff.1 hx), hp.nodup_iff.2 h.2.2⟩
theorem swap_perm {l : List Int} {i j : Nat} {x y : Int} (hi : l[i]? = some x) (hj : l[j]? = some y) : ((l.set i y).set j x).Perm l := by
  obtain ⟨hi1, rfl⟩ := List.getElem?_eq_some_iff.mp hi
  obtain ⟨hj1, rfl⟩ := List.getElem?_eq_some_iff.mp hj
  exact List.set_set_perm hi1 hj1

def u8s (l : List Nat) : List Value := l.map fun (e : Nat) => Value.int .u8 (e : Int)
theorem u8s_get {l : List Nat} {i e : Nat} (h : l[i]? = some e) : (u8s l)[i]? = some (.int .u8 (e : Int)) := by simp [u8s, h]
theorem u8s_length (l : List Nat) : (u8s l).length = l.length := by simp [u8s]

set_option maxHeartbeats 2000000 in
theorem perm21 {f n : Nat} (hn : n ≤ 32) (hf : f ≤ n) (A : Option Addr) (ts : List Nat) (cap : Nat) (H : Heap) (nx : Nat) (hS : Sl H nx A (u8s ts)) (h8 : ∀ t ∈ ts, t < 256) (hl : ts.length ≤ 20) :
    Ans Try.prog 21 [.int .i64 (f : Int), .int .i64 (n : Int), .slice A ts.length cap] H nx fun r H' nx' => Ext H nx H' nx' ∧ ∃ (B : Option Addr) (l : List Int), r = .slice B l.length l.length ∧ permOK l f n ∧ Sl H' nx' B (i64s l) ∧ Has H' nx' B := by
  refine spec21 ?_
  unfold F21
  refine wLoop_rule (m := n - f) (fun m L H' nx' => ∃ (c : Nat) (v : Value), m + c = n - f ∧ L = [v, .int .i64 ((f + c : Nat) : Int)] ∧ Acc nx H' nx' 1 v c (i64s (upFrom f c)) ∧ Ext H nx H' nx') ?_ ⟨0, .slice none 0 0, rfl, by simp, Acc.nil _ _ _ _, Ext.refl _ _⟩
  rintro m ih L H1 nx1 ⟨c, v, hm, rfl, hA, hE1⟩ hih
  have hx1 := hE1.le
  simp (config := { maxSteps := 2000000 }) (disch := first | omega | assumption | exact shr_lt (by assumption) | exact ndiff32 (by assumption) | exact below_lt (by omega) | fail) only [List.getD_cons_zero, List.getD_cons_succ, wBin_lss, wIf_bool, wLen_slice, wNew_eq, forceV_eq, forceN_eq, Yld.val, and_true, true_and, or_false, wBin_add64]
  by_cases hc : f + c < n
  · have hc' : ((f + c : Nat) : Int) < (n : Int) := by omega
    have e1 : ∀ k, dBsl 1 1 [.int .i64 0] [(0, .int .i64 ((f + c : Nat) : Int))] k = k [.int .i64 ((f + c : Nat) : Int)] := fun k => rfl
    simp (config := { maxSteps := 2000000 }) (disch := first | omega | assumption | exact shr_lt (by assumption) | exact ndiff32 (by assumption) | exact below_lt (by omega) | fail) only [decide_true, if_true, hc', e1]
    have hE2 : Ext H1 nx1 (hs H1 nx1 (some (.cells [.int .i64 ((f + c : Nat) : Int)] 0))) (nx1 + 1) := (Ext.refl _ _).new _ (Nat.le_refl _) (by omega)
    refine wApp_acc (H0 := H) (by omega) (hA.ext hE2) (src_new (getH_same _ _ _) rfl (by omega)) (by omega) rfl (by omega) (by omega) (hE1.trans hE2) (by omega) ?_
    intro v' H' hA' hE' _
    refine hih (m - 1) _ _ _ (by omega) ⟨c + 1, v', by omega, ?_, ?_, hE'⟩
    · rw [show ((f + (c + 1) : Nat) : Int) = ((f + c : Nat) : Int) + 1 by omega]
    · have e : i64s (upFrom f (c + 1)) = i64s (upFrom f c) ++ [.int .i64 ((f + c : Nat) : Int)] := by simp [upFrom, i64s]
      rw [e]; exact hA'
  · have hc' : ¬ ((f + c : Nat) : Int) < (n : Int) := by omega
    have hcn : f + c = n := by omega
    simp (config := { maxSteps := 2000000 }) (disch := first | omega | assumption | exact shr_lt (by assumption) | exact ndiff32 (by assumption) | exact below_lt (by omega) | fail) only [decide_false, if_false, Bool.false_eq_true, hc']
    obtain ⟨hAl, hA⟩ := hA
    rcases hA with ⟨hc0, rfl⟩ | ⟨b, hb1, hb2, rfl, hg⟩
    · -- nothing to permute
      subst hc0
      refine wLoop_rule (m := ts.length) (fun m L H' nx' => ∃ i : Nat, m + i = ts.length ∧ L = [.int .i64 (i : Int)] ∧ H1 = H' ∧ nx1 = nx') ?_ ⟨0, rfl, rfl, rfl, rfl⟩
      rintro m2 ih2 L _ _ ⟨i, hm2, rfl, rfl, rfl⟩ hih2
      simp (config := { maxSteps := 2000000 }) (disch := first | omega | assumption | exact shr_lt (by assumption) | exact ndiff32 (by assumption) | exact below_lt (by omega) | fail) only [List.getD_cons_zero, wBin_lss, wBin_gtr, wIf_bool, wLen_slice, and_true, true_and, wBin_add64]
      by_cases hi : i < ts.length
      · have hi' : (i : Int) < (ts.length : Int) := by omega
        obtain ⟨t, ht⟩ : ∃ t, ts[i]? = some t := ⟨_, List.getElem?_eq_getElem hi⟩
        obtain ⟨A, o, row, rfl, _, hrow, hget⟩ := (hS.ext hE1).open (i := i) (by rw [u8s_length]; omega)
        have d0 : ¬ (0 : Int) < ((0 : Nat) : Int) := by omega
        simp (config := { maxSteps := 2000000 }) (disch := first | omega | assumption | exact shr_lt (by assumption) | exact ndiff32 (by assumption) | exact below_lt (by omega) | fail) only [wLd_none, cellP_one, Option.elim_some, decide_true, decide_false, if_true, if_false, Bool.false_eq_true, wIdx_slice, Int.toNat_natCast, Nat.mul_one, hi', ldP_row hrow, hget _ _ (u8s_get ht), wJoin_eq, d0]
        exact hih2 (m2 - 1) _ _ _ (by omega) ⟨i + 1, by omega, by simp, rfl, rfl⟩
      · have hi' : ¬ (i : Int) < (ts.length : Int) := by omega
        simp (config := { maxSteps := 2000000 }) (disch := first | omega | assumption | exact shr_lt (by assumption) | exact ndiff32 (by assumption) | exact below_lt (by omega) | fail) only [decide_false, if_false, Bool.false_eq_true, hi']
        exact ⟨hE1, none, [], rfl, ⟨by simp; omega, by simp, by simp⟩, Sl.nil _ _ _, .inl rfl⟩
    · rw [i64s_length, upFrom_len] at hAl
      have hc0 : 0 < c ∨ c = 0 := by omega
      refine wLoop_rule (m := ts.length) (fun m L H' nx' => ∃ (i : Nat) (l : List Int), m + i = ts.length ∧ L = [.int .i64 (i : Int)] ∧ permOK l f n ∧ l.length = c ∧ getH H' b = some (.cells (i64s l) 1) ∧ Ext H nx H' nx' ∧ b < nx') ?_ ⟨0, upFrom f c, rfl, rfl, hcn ▸ upFrom_perm f c, upFrom_len f c, hg, hE1, hb2⟩
      rintro m2 ih2 L H2 nx2 ⟨i, l, hm2, rfl, hp, hlc, hg2, hE2, hb3⟩ hih2
      simp (config := { maxSteps := 2000000 }) (disch := first | omega | assumption | exact shr_lt (by assumption) | exact ndiff32 (by assumption) | exact below_lt (by omega) | fail) only [List.getD_cons_zero, wBin_lss, wBin_gtr, wIf_bool, wLen_slice, and_true, true_and, wBin_add64]
      by_cases hi : i < ts.length
      · have hi' : (i : Int) < (ts.length : Int) := by omega
        obtain ⟨t, ht⟩ : ∃ t, ts[i]? = some t := ⟨_, List.getElem?_eq_getElem hi⟩
        obtain ⟨A, o, row, rfl, _, hrow, hget⟩ := (hS.ext hE2).open (i := i) (by rw [u8s_length]; omega)
        rcases hc0 with hc0 | hc0
        · have d0 : (0 : Int) < (c : Int) := by omega
          have ht8 := h8 t (List.mem_of_getElem? ht)
          have ec : ∀ k, wConv .i64 (.int .u8 (t : Int)) k = k (.int .i64 (t : Int)) := fun k => by
            rw [wConv_eq, i64_id (by omega) (by omega)]
          have hcz : (c : Int) ≠ 0 := by omega
          have hm1 : Int.tmod (i : Int) (c : Int) = ((i % c : Nat) : Int) := rfl
          have hm2' : Int.tmod (t : Int) (c : Int) = ((t % c : Nat) : Int) := rfl
          have hlt1 : i % c < c := Nat.mod_lt _ hc0
          have hlt2 : t % c < c := Nat.mod_lt _ hc0
          obtain ⟨x, hx⟩ : ∃ x, l[i % c]? = some x := ⟨_, List.getElem?_eq_getElem (by omega)⟩
          obtain ⟨y, hy⟩ : ∃ y, l[t % c]? = some y := ⟨_, List.getElem?_eq_getElem (by omega)⟩
          have q1 : i % c < l.length := by omega
          have q2 : t % c < (l.set (i % c) y).length := by simp; omega
          have q3 : i % c + 1 ≤ (i64s l).length := by rw [i64s_length]; omega
          have q4 : t % c + 1 ≤ (i64s (l.set (i % c) y)).length := by rw [i64s_length]; simp; omega
          have b1 : ((i % c : Nat) : Int) < (c : Int) := by omega
          have b2 : ((t % c : Nat) : Int) < (c : Int) := by omega
          simp (config := { maxSteps := 2000000 }) (disch := first | omega | assumption | exact shr_lt (by assumption) | exact ndiff32 (by assumption) | exact below_lt (by omega) | fail) only [wLd_none, ldP_cells, cellP_one, getH_same, Option.elim_some, decide_true, if_true, Nat.zero_add, true_and, wIdx_slice, Int.toNat_natCast, Nat.mul_one, wSt_int, stP_cells, List.length_cons, List.length_nil, hi', ldP_row hrow, hget _ _ (u8s_get ht), wJoin_eq, d0, ec, wBin_rem _ _ _ _ hcz, hm1, hm2', hg2, i64s_get hx, i64s_get hy, q3, putL_i64s q1, putL_i64s q2, q4]
          refine hih2 (m2 - 1) _ _ _ (by omega) ⟨i + 1, _, by omega, by simp, permOK_perm hp (swap_perm hx hy), by simp [hlc], by rw [getH_same], ((hE2.more (by omega)).hs (by omega)).hs (by omega), by omega⟩
        · have d0 : ¬ (0 : Int) < (c : Int) := by omega
          simp (config := { maxSteps := 2000000 }) (disch := first | omega | assumption | exact shr_lt (by assumption) | exact ndiff32 (by assumption) | exact below_lt (by omega) | fail) only [wLd_none, cellP_one, Option.elim_some, decide_true, decide_false, if_true, if_false, Bool.false_eq_true, wIdx_slice, Int.toNat_natCast, Nat.mul_one, hi', ldP_row hrow, hget _ _ (u8s_get ht), wJoin_eq, d0]
          exact hih2 (m2 - 1) _ _ _ (by omega) ⟨i + 1, l, by omega, by simp, hp, hlc, hg2, hE2, hb3⟩
      · have hi' : ¬ (i : Int) < (ts.length : Int) := by omega
        simp (config := { maxSteps := 2000000 }) (disch := first | omega | assumption | exact shr_lt (by assumption) | exact ndiff32 (by assumption) | exact below_lt (by omega) | fail) only [decide_false, if_false, Bool.false_eq_true, hi']
        refine ⟨hE2, some ⟨b, 0, none⟩, l, by rw [hlc], hp, sl_cells hg2 hb3, .inr ⟨b, 0, i64s l, rfl, hb3, by simp [rowOf, hg2, Blk.row]⟩⟩
end Go.Proofs.Ytaieijjfabbfeaa

set_option linter.unusedSimpArgs false
set_option linter.unusedVariables false
set_option linter.unusedSectionVars false
namespace Go.Proofs.Ytaieijjfabbfeaa
open Go.Clo

/-- An elimination order of the vertices below n. -/
structure OrdOK (n : Nat) (order : List Nat) : Prop where
  nd : order.Nodup
  lt : ∀ w ∈ order, w < n
  len : order.length = n
theorem OrdOK.at {n : Nat} {order : List Nat} (h : OrdOK n order) {v : Nat} (hv : v < n) : ∃ j : Nat, order[j]? = some v := List.getElem?_of_mem (order_all h.nd h.lt h.len hv)

section
variable {n : Nat} {es order : List Nat} (hn : n ≤ 32) (ho : OrdOK n order)
/-- The sets of the bags. -/
def sets (n : Nat) (es order : List Nat) : List Nat := (outs n (List.replicate n zeroBag) (adj es) order).map setOf
include ho in
theorem outs_at {j v : Nat} (h : order[j]? = some v) : (outs n (List.replicate n zeroBag) (adj es) order)[v]? = some (bagOf n (iter (adj es) order j) v (order.drop (j + 1))) :=
  outs_get ho.nd (fun w hw => by simp; exact ho.lt w hw) h
include ho hn in
theorem sets_bit {j v i : Nat} (h : order[j]? = some v) : bitAt (sets n es order) i v = (decide (i = v) || (decide (i < n) && (iter (adj es) order j v i && decide (i ∈ order.drop (j + 1))))) := by
  have hvn := ho.lt v (List.mem_of_getElem? h)
  unfold bitAt sets
  rw [List.getElem?_map, outs_at ho h]
  simp only [Option.map_some]
  rw [setOf_var (v := v) rfl (by omega), Nat.testBit_or, Nat.testBit_two_pow]
  show ((maskOf (keyB (iter (adj es) order j) v (order.drop (j + 1))) n).testBit i || _) = _
  rw [key_bit, Bool.or_comm]
  congr 1
  by_cases hiv : i = v
  · simp [hiv]
  · have : ¬ v = i := fun e => hiv e.symm
    simp [hiv, this]
theorem sets_length : (sets n es order).length = n := by simp [sets, outs_len]
include ho in
theorem later_iff {i k a b : Nat} (ha : order[i]? = some a) (hb : order[k]? = some b) : b ∈ order.drop (i + 1) ↔ i < k := by
  constructor
  · intro h
    obtain ⟨k', h1, h2⟩ := mem_drop_at h
    rw [nodup_at ho.nd hb h2]; exact h1
  · intro h; exact at_mem_drop h hb

/-- Both in one bag: the later one is in the earlier one's bag. -/
theorem pair_bag (hn : n ≤ 32) (ho : OrdOK n order) {i k a b u : Nat} (ha : order[i]? = some a) (hb : order[k]? = some b) (hik : i < k) (h1 : bitAt (sets n es order) a u = true) (h2 : bitAt (sets n es order) b u = true) : iter (adj es) order i a b = true := by
  have hu : u < n := by have := bitAt_lt h1; rw [sets_length] at this; exact this
  obtain ⟨p, hp⟩ := ho.at hu
  rw [sets_bit hn ho hp] at h1 h2
  simp only [Bool.or_eq_true, decide_eq_true_eq, Bool.and_eq_true] at h1 h2
  have hab : a ≠ b := fun e => by
    subst e
    have := nodup_at ho.nd ha hb; omega
  rcases h1 with h1 | ⟨_, h1, h1m⟩
  · subst h1
    have hpi := nodup_at ho.nd hp ha
    subst hpi
    rcases h2 with h2 | ⟨_, h2, _⟩
    · exact absurd h2.symm hab
    · exact h2
  · have hpi : p < i := (later_iff ho hp ha).1 h1m
    rcases h2 with h2 | ⟨_, h2, h2m⟩
    · subst h2
      have := nodup_at ho.nd hp hb; omega
    · have hst : iter (adj es) order (p + 1) a b = true := by
        rw [iter_succ hp]
        have e0 : decide (a ≠ b) = true := by simp [hab]
        have e1 : keyB (iter (adj es) order p) u (order.drop (p + 1)) a = true := by simp only [keyB, h1, h1m, decide_true, Bool.and_self]
        have e2 : keyB (iter (adj es) order p) u (order.drop (p + 1)) b = true := by simp only [keyB, h2, h2m, decide_true, Bool.and_self]
        unfold stepN
        rw [e0, e1, e2]; simp
      exact iter_mono hst i (by omega) (by have := lt_len ha; omega)
theorem bag_pair (hn : n ≤ 32) (ho : OrdOK n order) {i k a b : Nat} (ha : order[i]? = some a) (hb : order[k]? = some b) (hik : i < k) (h : iter (adj es) order i a b = true) : bitAt (sets n es order) a a = true ∧ bitAt (sets n es order) b a = true := by
  have hbn := ho.lt b (List.mem_of_getElem? hb)
  rw [sets_bit hn ho ha, sets_bit hn ho ha]
  have hm : b ∈ order.drop (i + 1) := (later_iff ho ha hb).2 hik
  constructor
  · simp
  · simp [hbn, h, hm]
theorem adj_bits {E : List Nat} {a b : Nat} : adj E a b = true ↔ a ≠ b ∧ ∃ e, bitAt E a e = true ∧ bitAt E b e = true := by
  simp only [adj, Bool.and_eq_true, decide_eq_true_eq, List.any_eq_true]
  refine and_congr_right fun _ => ?_
  constructor
  · rintro ⟨x, hx, h1, h2⟩
    obtain ⟨i, hi⟩ := List.getElem?_of_mem hx
    exact ⟨i, by unfold bitAt; rw [hi]; exact h1, by unfold bitAt; rw [hi]; exact h2⟩
  · rintro ⟨i, h1, h2⟩
    have hl := bitAt_lt h1
    unfold bitAt at h1 h2
    rw [List.getElem?_eq_getElem hl] at h1 h2
    exact ⟨_, List.getElem_mem hl, h1, h2⟩

/-- The elimination of the bags adds nothing. -/
theorem iter_same (hn : n ≤ 32) (ho : OrdOK n order) : ∀ (j i k a b : Nat), order[i]? = some a → order[k]? = some b → j ≤ i → i < k → iter (adj (sets n es order)) order j a b = iter (adj es) order i a b
  | 0, i, k, a, b, ha, hb, _, hik => by
    have h0 : iter (adj (sets n es order)) order 0 = adj (sets n es order) := by cases order <;> rfl
    have hab : a ≠ b := fun e => by
      subst e
      have := nodup_at ho.nd ha hb; omega
    rw [h0, Bool.eq_iff_iff, adj_bits]
    constructor
    · rintro ⟨_, u, h1, h2⟩; exact pair_bag hn ho ha hb hik h1 h2
    · intro h
      obtain ⟨h1, h2⟩ := bag_pair hn ho ha hb hik h
      exact ⟨hab, a, h1, h2⟩
  | j + 1, i, k, a, b, ha, hb, hji, hik => by
    have hil := lt_len ha
    obtain ⟨v, hv⟩ : ∃ v, order[j]? = some v := ⟨_, List.getElem?_eq_getElem (by omega)⟩
    rw [iter_succ hv, stepN, iter_same hn ho j i k a b ha hb (by omega) hik]
    unfold keyB
    rw [iter_same hn ho j j i v a hv ha (Nat.le_refl _) (by omega), iter_same hn ho j j k v b hv hb (Nat.le_refl _) (by omega)]
    cases hab : iter (adj es) order i a b with
    | true => rfl
    | false =>
      rw [Bool.false_or, Bool.eq_false_iff]
      intro h
      simp only [Bool.and_eq_true, decide_eq_true_eq] at h
      obtain ⟨hne, ⟨h1, h1m⟩, h2, h2m⟩ := h
      have hst : iter (adj es) order (j + 1) a b = true := by
        rw [iter_succ hv]
        have e0 : decide (a ≠ b) = true := by simp [hne]
        have e1 : keyB (iter (adj es) order j) v (order.drop (j + 1)) a = true := by simp only [keyB, h1, h1m, decide_true, Bool.and_self]
        have e2 : keyB (iter (adj es) order j) v (order.drop (j + 1)) b = true := by simp only [keyB, h2, h2m, decide_true, Bool.and_self]
        unfold stepN
        rw [e0, e1, e2]; simp
      have := iter_mono hst i (by omega) (by omega)
      rw [hab] at this; cases this

theorem find_congr {α : Type} {p q : α → Bool} : ∀ {l : List α}, (∀ x ∈ l, p x = q x) → l.find? p = l.find? q
  | [], _ => rfl
  | a :: l, h => by
    rw [List.find?_cons, List.find?_cons, h a List.mem_cons_self, find_congr fun x hx => h x (List.mem_cons_of_mem _ hx)]
theorem bagOf_congr {N M : Nb} {v : Nat} {rest : List Nat} (h : ∀ w ∈ rest, N v w = M v w) : bagOf n N v rest = bagOf n M v rest := by
  have e1 : maskOf (keyB N v rest) n = maskOf (keyB M v rest) n := maskOf_congr fun w _ => by
    unfold keyB
    by_cases hw : w ∈ rest
    · rw [h w hw]
    · simp [hw]
  have e2 : parB N v rest = parB M v rest := by unfold parB; rw [find_congr h]
  unfold bagOf
  rw [e1, e2]
theorem outs_same (hn : n ≤ 32) (ho : OrdOK n order) : outs n (List.replicate n zeroBag) (adj (sets n es order)) order = outs n (List.replicate n zeroBag) (adj es) order := by
  apply List.ext_getElem?
  intro v
  by_cases hv : v < n
  · obtain ⟨j, hj⟩ := ho.at hv
    rw [outs_at ho hj, outs_at ho hj]
    congr 1
    refine bagOf_congr fun w hw => ?_
    obtain ⟨k, hk1, hk2⟩ := mem_drop_at hw
    exact iter_same hn ho j j k v w hj hk2 (Nat.le_refl _) hk1
  · rw [List.getElem?_eq_none (by rw [outs_len]; simp; omega), List.getElem?_eq_none (by rw [outs_len]; simp; omega)]

theorem sets_lt (hn : n ≤ 32) (ho : OrdOK n order) : ∀ v e, bitAt (sets n es order) v e = true → v < n := by
  intro v e h
  have hl := bitAt_lt h
  rw [sets_length] at hl
  obtain ⟨j, hj⟩ := ho.at hl
  rw [sets_bit hn ho hj] at h
  simp only [Bool.or_eq_true, decide_eq_true_eq, Bool.and_eq_true] at h
  rcases h with h | h
  · omega
  · exact h.1
theorem sets_pow (hn : n ≤ 32) (ho : OrdOK n order) : ∀ x ∈ sets n es order, x < 2 ^ n := by
  intro x hx
  obtain ⟨i, hi⟩ := List.getElem?_of_mem hx
  refine Nat.lt_pow_two_of_testBit x fun v hv => ?_
  rw [Bool.eq_false_iff]
  intro hb
  have := sets_lt hn ho v i (by unfold bitAt; rw [hi]; exact hb)
  omega
theorem sets_red (hn : n ≤ 32) (ho : OrdOK n order) : RedI n order (sets n es order) (List.replicate (sets n es order).length false) := by
  refine ⟨⟨fun e he => ?_, fun j v hj _ => ?_⟩, by simp, sets_lt hn ho, bits_small hn (sets_lt hn ho)⟩
  · have := List.eq_of_mem_replicate (List.mem_of_getElem? he); cases this
  · have hvn := ho.lt v (List.mem_of_getElem? hj)
    refine ⟨v, ?_, by rw [sets_bit hn ho hj]; simp, fun e w k h1 h2 hk hjk => (bag_pair hn ho hj hk hjk (pair_bag hn ho hj hk hjk h1 h2)).2⟩
    rw [List.getElem?_replicate, if_pos (by rw [sets_length]; exact hvn)]
end
end Go.Proofs.Ytaieijjfabbfeaa

set_option linter.unusedSimpArgs false
set_option linter.unusedVariables false
set_option linter.unusedSectionVars false
namespace Go.Proofs.Ytaieijjfabbfeaa
open Go.Clo

theorem acyclic22 {n : Nat} (hn : n ≤ 32) (b o : Nat) (es : List Nat) (cap : Nat) (order : List Nat) (H : Heap) (nx : Nat) (hS : Sl H nx (some ⟨b, o, none⟩) (u32s es)) (hsm : Small es) (h0 : 0 < es.length) (hl : es.length ≤ 64) (hg : gcode n es = 0)
    (hI : RedI n order es (List.replicate es.length false)) (hall : ∀ v, v < n → ∃ k : Nat, order[k]? = some v) :
    Ans Try.prog 22 [gv n (some ⟨b, o, none⟩) es.length cap] H nx fun r H' nx' => r = .bool true ∧ Ext H nx H' nx' := by
  refine spec22 ?_
  unfold F22
  have hE1 : Ext H nx (hs H nx (some (.cells [.int .i64 (n : Int), .slice (some ⟨b, o, none⟩) es.length cap] 0))) (nx + 1) := (Ext.refl H nx).new _ (Nat.le_refl _) (by omega)
  simp only [gv]
  simp (config := { maxSteps := 2000000 }) (disch := first | omega | assumption | exact shr_lt (by assumption) | exact ndiff32 (by assumption) | exact below_lt (by omega) | fail) only [wNew_eq, dBox_agg, oneCells, wLd_2, ldP_cells, getH_same, forceV_eq, Yld.val, if_true, cellP_lit2]
  refine wCall_rule (check37 n (some ⟨b, o, none⟩) es cap _ (nx + 1) (hS.ext hE1) hsm) ?_
  rintro _ H2 nx2 ⟨rfl, hE2⟩
  have d0 : decide ((0 : Int) ≠ 0) = false := by simp
  have hEE2 := hE1.trans hE2
  have kG2 := hE2.get nx (by omega)
  rw [getH_same] at kG2
  rw [hg]
  simp (config := { maxSteps := 2000000 }) (disch := first | omega | assumption | exact shr_lt (by assumption) | exact ndiff32 (by assumption) | exact below_lt (by omega) | fail) only [wBin_neq, wIf_bool, ldP_cells, if_false, Bool.false_eq_true, d0, kG2, cellP_lit2]
  refine wCall_rule (reduce38 hn b o es cap order H2 nx2 (hS.ext hEE2) hsm h0 hl hg hI hall) ?_
  rintro _ H3 nx3 ⟨hE3, steps, A, rest, rfl, hl3, hs3, hz⟩
  simp (config := { maxSteps := 2000000 }) (disch := first | omega | assumption | exact shr_lt (by assumption) | exact ndiff32 (by assumption) | exact below_lt (by omega) | fail) only [wExt_eq, Option.elim_some, List.getElem?_cons_zero, List.getElem?_cons_succ]
  refine wCall_rule (some39 A rest rest.length H3 nx3 hs3 hl3) ?_
  rintro _ _ _ ⟨⟨c, rfl, hc⟩, rfl, rfl⟩
  have : c = false := by
    rw [Bool.eq_false_iff]
    intro h
    obtain ⟨e, he, hne⟩ := hc.1 h
    exact hne (hz e he)
  subst this
  simp (config := { maxSteps := 2000000 }) (disch := first | omega | assumption | exact shr_lt (by assumption) | exact ndiff32 (by assumption) | exact below_lt (by omega) | fail) only [wUn_not, true_and, Bool.not_false]
  exact hEE2.trans hE3

theorem gcode_mem {n : Nat} {es : List Nat} (hn : n ≤ 32) (hl : es.length ≤ 64) (h : ∀ e ∈ es, e < 2 ^ n) : gcode n es = 0 := by
  unfold gcode
  rw [if_neg (by omega), if_neg (by omega), if_neg]
  rintro ⟨e, he, hge⟩
  have := h e he
  rw [Int.toNat_natCast] at hge
  omega
theorem fcode_ok {n f : Nat} {es : List Nat} (hg : gcode n es = 0) (hf : f ≤ n) : fcode n f es = 0 := by
  unfold fcode
  rw [if_neg (by simpa using hg), if_neg (by omega)]
theorem order_of {l : List Int} {f : Nat} {o1 o2 : List Nat} (h1 : l ++ downTo f f = o1.map fun (w : Nat) => (w : Int)) (h2 : l ++ downTo f f = o2.map fun (w : Nat) => (w : Int)) : o1 = o2 := by
  rw [h1] at h2
  have hi : Function.Injective fun (w : Nat) => (w : Int) := fun a b h => Int.ofNat.inj h
  exact (List.map_inj_right (fun a b h => hi h)).1 h2

set_option maxHeartbeats 4000000 in
theorem law6 (N : Int) (fr : Nat) (A : Option Addr) (es : List Nat) (cap : Nat) (T : Option Addr) (ts : List Nat) (capT : Nat) (H : Heap) (nx : Nat) (hS : Sl H nx A (u32s es)) (hsm : Small es) (hT : Sl H nx T (u8s ts)) (h8 : ∀ t ∈ ts, t < 256) (hfr : fr < 256) :
    Ans Try.prog 6 [gv N A es.length cap, .int .u8 (fr : Int), .slice T ts.length capT] H nx fun r _ _ => r = .bool true := by
  refine spec6 ?_
  unfold F6
  have hE1 : Ext H nx (hs H nx (some (.cells [.int .i64 N, .slice A es.length cap] 0))) (nx + 1) := (Ext.refl H nx).new _ (Nat.le_refl _) (by omega)
  simp only [gv]
  simp (config := { maxSteps := 2000000 }) (disch := first | omega | assumption | exact shr_lt (by assumption) | exact ndiff32 (by assumption) | exact below_lt (by omega) | fail) only [wBin_gtr, wGuard_false, wFld_eq, wLen_slice, wNew_eq, wNm_eq, dBox_agg, oneCells, wLd_none, wLd_2, wLd_3, ldP_cells, getH_same, forceV_eq, forceN_eq, hsK_eq, Yld.val, if_true, Nat.zero_add, Nat.add_zero, and_true, true_and, or_false, cellP_lit2]
  refine wJoin_rule (fun L H' nx' => ∃ c : Bool, L = [.bool c] ∧ Ext (hs H nx (some (.cells [.int .i64 N, .slice A es.length cap] 0))) (nx + 1) H' nx' ∧ (c = false → 0 < N ∧ N ≤ 6 ∧ es.length ≤ 8 ∧ gcode N es = 0 ∧ ts.length ≤ 20)) ?_ ?_
  · intro j hj
    refine wCall_rule (few17 N A es cap _ _ (hS.ext hE1) hsm) ?_
    rintro _ H2 nx2 ⟨⟨c, rfl, hc⟩, hE2⟩
    have kG2 := hE2.get nx (by omega)
    rw [getH_same] at kG2
    cases c with
    | false =>
      simp (config := { maxSteps := 2000000 }) (disch := first | omega | assumption | exact shr_lt (by assumption) | exact ndiff32 (by assumption) | exact below_lt (by omega) | fail) only [wGuard_false, wUn_not, if_true, Bool.not_false]
      exact hj _ _ _ ⟨true, rfl, hE2, fun h => by cases h⟩
    | true =>
      obtain ⟨h1, h2, h3, h4⟩ := hc rfl
      by_cases ht : (20 : Int) < (ts.length : Int)
      · simp (config := { maxSteps := 2000000 }) (disch := first | omega | assumption | exact shr_lt (by assumption) | exact ndiff32 (by assumption) | exact below_lt (by omega) | fail) only [wGuard_false, wUn_not, decide_true, if_true, if_false, Bool.false_eq_true, Bool.not_true, ht]
        exact hj _ _ _ ⟨true, rfl, hE2, fun h => by cases h⟩
      · by_cases hN : N = 0
        · have d : decide (N = 0) = true := by simp [hN]
          simp (config := { maxSteps := 2000000 }) (disch := first | omega | assumption | exact shr_lt (by assumption) | exact ndiff32 (by assumption) | exact below_lt (by omega) | fail) only [wBin_eql, wGuard_false, wUn_not, ldP_cells, cellP_one, Option.elim_some, List.getElem?_cons_zero, decide_false, if_false, Bool.false_eq_true, Bool.not_true, ht, kG2, d]
          exact hj _ _ _ ⟨true, rfl, hE2, fun h => by cases h⟩
        · have d : decide (N = 0) = false := by simp [hN]
          simp (config := { maxSteps := 2000000 }) (disch := first | omega | assumption | exact shr_lt (by assumption) | exact ndiff32 (by assumption) | exact below_lt (by omega) | fail) only [wBin_eql, wGuard_false, wUn_not, ldP_cells, cellP_one, Option.elim_some, List.getElem?_cons_zero, decide_false, if_false, Bool.false_eq_true, Bool.not_true, ht, kG2, d]
          exact hj _ _ _ ⟨false, rfl, hE2, fun _ => ⟨by omega, h2, h3, h4, by omega⟩⟩
  rintro _ H2 nx2 ⟨c, rfl, hE2, hc⟩
  cases c with
  | true =>
    simp (config := { maxSteps := 2000000 }) (disch := first | omega | assumption | exact shr_lt (by assumption) | exact ndiff32 (by assumption) | exact below_lt (by omega) | fail) only [List.getD_cons_zero, wIf_bool, if_true]
    refine wCall_rule (awake7 _ _) ?_
    rintro _ _ _ ⟨rfl, rfl, rfl⟩
    simp (disch := first | omega | assumption | exact shr_lt (by assumption) | exact ndiff32 (by assumption) | exact below_lt (by omega) | fail) only []
  | false =>
  obtain ⟨hN0, hN6, hes8, hgc, hts⟩ := hc rfl
  obtain ⟨n, rfl⟩ : ∃ n : Nat, N = n := ⟨N.toNat, by omega⟩
  have hn : n ≤ 32 := by omega
  have hnx2 := hE2.le
  have hEE2 := hE1.trans hE2
  have kG2 := hE2.get nx (by omega)
  rw [getH_same] at kG2
  have ec : ∀ k, wConv .i64 (.int .u8 (fr : Int)) k = k (.int .i64 (fr : Int)) := fun k => by rw [wConv_eq, i64_id (by omega) (by omega)]
  have hn1 : (n : Int) + 1 ≠ 0 := by omega
  have hmod : Int.tmod (fr : Int) ((n : Int) + 1) = ((fr % (n + 1) : Nat) : Int) := rfl
  simp (config := { maxSteps := 2000000 }) (disch := first | omega | assumption | exact shr_lt (by assumption) | exact ndiff32 (by assumption) | exact below_lt (by omega) | fail) only [List.getD_cons_zero, wIf_bool, ldP_cells, cellP_one, Option.elim_some, List.getElem?_cons_zero, if_false, Bool.false_eq_true, wBin_add64, ec, kG2, wBin_rem _ _ _ _ hn1, hmod]
  generalize hf : fr % (n + 1) = f
  have hfn : f ≤ n := by have := Nat.mod_lt fr (show 0 < n + 1 by omega); omega
  refine wCall_rule (perm21 hn hfn T ts capT H2 nx2 (hT.ext hEE2) h8 hts) ?_
  rintro _ H3 nx3 ⟨hE3, P, l, rfl, hp, hP, hP0⟩
  have hnx3 := hE3.le
  have hEE3 := hEE2.trans hE3
  have kG3 := (hE3.get nx (by omega)).trans kG2
  have hll : l.length ≤ 40 := by have := hp.1; omega
  simp (config := { maxSteps := 2000000 }) (disch := first | omega | assumption | exact shr_lt (by assumption) | exact ndiff32 (by assumption) | exact below_lt (by omega) | fail) only [ldP_cells, kG3, cellP_lit2]
  refine wCall_rule (bags13 n f A es cap P l l.length H3 nx3 (hS.ext hEE3) hsm hP hP0 hll) ?_
  rintro r H4 nx4 ⟨hE4, hr⟩
  have hnx4 := hE4.le
  have hEE4 := hEE3.trans hE4
  have kG4 := (hE4.get nx (by omega)).trans kG3
  have hfc := fcode_ok hgc hfn
  rcases hr with ⟨h, _⟩ | ⟨n', f', en, ef, _, _, _, hr⟩
  · exact absurd hfc h
  have en' : n = n' := by omega
  have ef' : f = f' := by omega
  subst en' ef'
  clear en ef
  rcases hr with ⟨h, _⟩ | ⟨_, order, hord, hnd, hlt, hlen, R, rfl, hR⟩
  · exact absurd hp h
  have ho : OrdOK n order := ⟨hnd, hlt, hlen⟩
  have hb : ∀ kk, wBuild [.int .i64 0, .slice none 0 0] [(0, 1), (1, 1)] [(0, .int .i64 (n : Int))] kk = kk (.agg ⟨[.int .i64 (n : Int), .slice none 0 0]⟩) := fun _ => rfl
  generalize hbs : outs n (List.replicate n zeroBag) (adj es) order = bs at hR
  have hbl : bs.length = n := by rw [← hbs, outs_len]; simp
  have hkey : KeyOK bs := by rw [← hbs]; exact outs_key hn _ _ _ fun b hb => by rw [List.eq_of_mem_replicate hb]; decide
  have hsets : bs.map setOf = sets n es order := by rw [← hbs]; rfl
  simp (config := { maxSteps := 2000000 }) (disch := first | omega | assumption | exact shr_lt (by assumption) | exact ndiff32 (by assumption) | exact below_lt (by omega) | fail) only [wBin_eql, wGuard_true, wExt_eq, wLen_slice, oneCells, ldP_cells, cellP_one, getH_same, Option.elim_some, List.getElem?_cons_zero, List.getElem?_cons_succ, decide_true, if_true, Nat.zero_add, true_and, and_self, wSt_agg, stP_cells, List.length_cons, List.length_nil, Nat.le_refl, Nat.reduceAdd, kG4, hb, putL_lit2]
  have hE5 : Ext H4 nx4 (hs (hs H4 nx4 (some (.cells [.int .i64 0, .slice none 0 0] 0))) nx4 (some (.cells [.int .i64 (n : Int), .slice none 0 0] 0))) (nx4 + 1) := ((Ext.refl H4 nx4).new _ (Nat.le_refl _) (by omega)).hs (Nat.le_refl _)
  refine wLoop_rule (m := n) (fun m L H' nx' => ∃ (i : Nat) (v : Value), m + i = n ∧ L = [.int .i64 (i : Int)] ∧ Acc (nx4 + 1) H' nx' 1 v i (u32s ((bs.map setOf).take i)) ∧ getH H' nx4 = some (.cells [.int .i64 (n : Int), v] 0) ∧ Ext H4 nx4 H' nx' ∧ nx4 + 1 ≤ nx') ?_
    ⟨0, .slice none 0 0, by omega, rfl, Acc.nil _ _ _ _, getH_same _ _ _, hE5, Nat.le_refl _⟩
  rintro m ih L H6 nx6 ⟨i, v, hm, rfl, hA, g6, hE6, hx6⟩ hih
  simp (config := { maxSteps := 2000000 }) (disch := first | omega | assumption | exact shr_lt (by assumption) | exact ndiff32 (by assumption) | exact below_lt (by omega) | fail) only [List.getD_cons_zero, wBin_lss, wIf_bool, wBin_add64]
  by_cases hi : i < n
  · have hi' : (i : Int) < (n : Int) := by omega
    obtain ⟨b, hbi⟩ : ∃ b, bs[i]? = some b := ⟨_, List.getElem?_eq_getElem (by omega)⟩
    have hk := hkey.get hbi
    obtain ⟨R, o, row, rfl, hRn, hrow, hget⟩ := (hR.ext hE6).open (i := i * 3) (by rw [bagsC_length]; omega)
    have hgg := fun j v hv => hget _ v (bagsC_get hbi j v hv)
    have g0 : row[o + i * 3]? = some (.int .i64 b.var) := hgg 0 _ rfl
    have g1 : row[o + i * 3 + 1]? = some (.int .u32 (b.key : Int)) := hgg 1 _ rfl
    have g2 : row[o + i * 3 + 2]? = some (.int .i64 b.par) := hgg 2 _ rfl
    have hE7 : Ext H6 nx6 (hs (hs H6 nx6 (some (.cells [.int .i64 0, .int .u32 0, .int .i64 0] 0))) nx6 (some (.cells [.int .i64 b.var, .int .u32 (b.key : Int), .int .i64 b.par] 0))) (nx6 + 1) := ((Ext.refl H6 nx6).new _ (Nat.le_refl _) (by omega)).hs (Nat.le_refl _)
    generalize hK7 : hs (hs H6 nx6 (some (.cells [.int .i64 0, .int .u32 0, .int .i64 0] 0))) nx6 (some (.cells [.int .i64 b.var, .int .u32 (b.key : Int), .int .i64 b.par] 0)) = K7 at hE7
    have k7 : getH K7 nx6 = some (.cells [.int .i64 b.var, .int .u32 (b.key : Int), .int .i64 b.par] 0) := by rw [← hK7, getH_same]
    have k74 := (hE7.get nx4 (by omega)).trans g6
    simp (config := { maxSteps := 2000000 }) (disch := first | omega | assumption | exact shr_lt (by assumption) | exact ndiff32 (by assumption) | exact below_lt (by omega) | fail) only [oneCells, wLd_3, ldP_cells, cellP_one, getH_same, getH_ne, Option.elim_some, List.getElem?_cons_zero, List.getElem?_cons_succ, decide_true, if_true, Nat.zero_add, and_true, true_and, and_self, wIdx_slice, Int.toNat_natCast, wSt_agg, stP_cells, List.length_cons, List.length_nil, Nat.le_refl, Nat.reduceAdd, hi', ldP_row hrow, cellP_3 g0 g1 g2, putL_lit3, hK7, g6, cellP_lit3]
    refine wCall_rule (set20 (b := b) hk K7 (nx6 + 1 + 8)) ?_
    rintro _ H8 nx8 ⟨rfl, hE8⟩
    have hx8 := hE8.le
    have e1 : ∀ k, dBsl 1 1 [.int .u32 0] [(0, .int .u32 (setOf b : Int))] k = k [.int .u32 (setOf b : Int)] := fun k => rfl
    have k8 := (hE8.get nx6 (by omega)).trans k7
    have k84 := (hE8.get nx4 (by omega)).trans k74
    simp (config := { maxSteps := 2000000 }) (disch := first | omega | assumption | exact shr_lt (by assumption) | exact ndiff32 (by assumption) | exact below_lt (by omega) | fail) only [e1]
    have hE9 : Ext H6 nx6 (hs H8 (nx6 + 1 + 4) (some (.cells [.int .u32 (setOf b : Int)] 0))) nx8 := (hE7.trans ((Ext.self (by omega) : Ext K7 (nx6 + 1) K7 (nx6 + 1 + 8)).trans hE8)).new _ (by omega) (Nat.le_refl _)
    refine wApp_acc (H0 := hs H8 (nx6 + 1 + 4) (some (.cells [.int .u32 (setOf b : Int)] 0))) (by omega) (hA.ext hE9) (src_new (getH_same _ _ _) rfl (by omega)) (by omega) rfl (by omega) (by omega) (Ext.self (by omega)) (by omega) ?_
    intro v' H' hA' hE' hsame
    have k9 : getH H' nx4 = some (.cells [.int .i64 (n : Int), v] 0) := by rw [hE'.get nx4 (by omega), getH_ne _ (by omega)]; exact k84
    obtain ⟨A', rfl, _⟩ := hA'.sl
    have p1 : ∀ x : Value, putL [.int .i64 (n : Int), v] 1 [x] = [.int .i64 (n : Int), x] := fun _ => rfl
    simp (config := { maxSteps := 2000000 }) (disch := first | omega | assumption | exact shr_lt (by assumption) | exact ndiff32 (by assumption) | exact below_lt (by omega) | fail) only [ldP_cells, cellP_one, Option.elim_some, List.getElem?_cons_zero, List.getElem?_cons_succ, Nat.zero_add, true_and, wSt_slice, stP_cells, List.length_cons, List.length_nil, Nat.le_refl, Nat.reduceAdd, k9, p1, k84]
    refine hih (m - 1) _ _ _ (by omega) ⟨i + 1, .slice A' (i + 1) (i + 1), by omega, by simp, ?_, getH_same _ _ _, ?_, by omega⟩
    · have e : u32s ((bs.map setOf).take (i + 1)) = u32s ((bs.map setOf).take i) ++ [.int .u32 (setOf b : Int)] := by
        rw [take_next (x := setOf b) (by simp [hbi])]; simp [u32s]
      rw [e]
      refine ⟨hA'.1, hA'.2.imp id ?_⟩
      rintro ⟨q, q1, q2, q3, q4⟩
      exact ⟨q, q1, q2, q3, by rw [getH_ne _ (by omega)]; exact q4⟩
    · have hle := hE6.le
      refine ⟨by omega, fun j hj => ?_⟩
      rw [getH_ne _ (by omega), hE'.get j (by omega), hE9.get j (by omega)]
      exact hE6.get j hj
  · have hi' : ¬ (i : Int) < (n : Int) := by omega
    have hin : i = n := by omega
    subst hin
    have htk : (bs.map setOf).take i = sets i es order := by rw [hsets]; exact List.take_of_length_le (by rw [sets_length]; exact Nat.le_refl _)
    rw [htk] at hA
    obtain ⟨_, hA⟩ := hA
    rcases hA with ⟨h, _⟩ | ⟨q, hq1, hq2, rfl, hq⟩
    · omega
    have hEE6 := hEE4.trans hE6
    have hsS : Sl H6 nx6 (some ⟨q, 0, none⟩) (u32s (sets i es order)) := sl_cells hq hq2
    have hsl : (sets i es order).length = i := sets_length
    have hsp := sets_pow (es := es) hn ho
    have hssm : Small (sets i es order) := (sets_red (es := es) hn ho).small
    have hgs : gcode i (sets i es order) = 0 := gcode_mem hn (by rw [hsl]; omega) hsp
    have hfs := fcode_ok (f := f) hgs hfn
    have hP6 := hP.ext (hE4.trans hE6)
    have hP06 := hP0.ext (hE4.trans hE6)
    simp (config := { maxSteps := 2000000 }) (disch := first | omega | assumption | exact shr_lt (by assumption) | exact ndiff32 (by assumption) | exact below_lt (by omega) | fail) only [ldP_cells, decide_false, if_false, Bool.false_eq_true, hi', g6, cellP_lit2]
    have h13 := bags13 i f (some ⟨q, 0, none⟩) (sets i es order) i P l l.length H6 nx6 hsS hssm hP6 hP06 hll
    rw [hsl] at h13
    refine wCall_rule h13 ?_
    rintro r H7 nx7 ⟨hE7, hr⟩
    rcases hr with ⟨h, _⟩ | ⟨n', f', en, ef, _, _, _, hr⟩
    · exact absurd hfs h
    have en' : i = n' := by omega
    have ef' : f = f' := by omega
    subst en' ef'
    clear en ef
    rcases hr with ⟨h, _⟩ | ⟨_, order', hord', _, _, _, R', rfl, hR'⟩
    · exact absurd hp h
    obtain rfl := order_of hord hord'
    rw [outs_same hn ho, hbs] at hR'
    have hx7 := hE7.le
    have g7 := (hE7.get nx4 (by omega)).trans g6
    simp (config := { maxSteps := 2000000 }) (disch := first | omega | assumption | exact shr_lt (by assumption) | exact ndiff32 (by assumption) | exact below_lt (by omega) | fail) only [wBin_eql, wGuard_true, wExt_eq, Option.elim_some, List.getElem?_cons_zero, List.getElem?_cons_succ, decide_true, if_true]
    refine wCall_rule (awake7 _ _) ?_
    rintro _ _ _ ⟨rfl, rfl, rfl⟩
    have d5 : decide ((0 : Int) = 0) = true := by decide
    simp (config := { maxSteps := 2000000 }) (disch := first | omega | assumption | exact shr_lt (by assumption) | exact ndiff32 (by assumption) | exact below_lt (by omega) | fail) only [wGuard_true, ldP_cells, if_true, g7, cellP_lit2]
    have h22 := acyclic22 hn q 0 (sets i es order) i order H7 nx7 (hsS.ext hE7) hssm (by rw [hsl]; omega) (by rw [hsl]; omega) hgs (sets_red hn ho) (fun v hv => ho.at hv)
    rw [hsl] at h22
    refine wCall_rule h22 ?_
    rintro _ H8 nx8 ⟨rfl, hE8⟩
    simp (config := { maxSteps := 2000000 }) (disch := first | omega | assumption | exact shr_lt (by assumption) | exact ndiff32 (by assumption) | exact below_lt (by omega) | fail) only [wGuard_true, if_true]
    have h23 := equal23 R R' bs i i H8 nx8 (hR.ext ((hE6.trans hE7).trans hE8)) (hR'.ext hE8) (by omega)
    rw [hbl] at h23
    refine wCall_rule h23 ?_
    rintro _ H9 nx9 ⟨rfl, hE9⟩
    have g9 := ((hE8.trans hE9).get nx4 (by omega)).trans g7
    simp (config := { maxSteps := 2000000 }) (disch := first | omega | assumption | exact shr_lt (by assumption) | exact ndiff32 (by assumption) | exact below_lt (by omega) | fail) only [wGuard_true, ldP_cells, if_true, g9, cellP_lit2]
    have h8' := check8 i f (some ⟨q, 0, none⟩) (sets i es order) i R bs i H9 nx9 (hsS.ext ((hE7.trans hE8).trans hE9)) hssm (hR.ext ((hE6.trans hE7).trans (hE8.trans hE9))) hkey
    rw [hbl, hsl] at h8'
    refine wCall_rule h8' ?_
    rintro _ H10 nx10 ⟨rfl, hE10⟩
    have hgood := good_bags (es := sets i es order) hn hsp hp hord hnd hlt hlen
    rw [outs_same hn ho, hbs] at hgood
    have hchk : chk i f (sets i es order) bs = 0 := by rw [chk, hfs]; simpa using hgood
    rw [hchk]
    simp (config := { maxSteps := 2000000 }) (disch := first | omega | assumption | exact shr_lt (by assumption) | exact ndiff32 (by assumption) | exact below_lt (by omega) | fail) only [wBin_eql, decide_true]
end Go.Proofs.Ytaieijjfabbfeaa
