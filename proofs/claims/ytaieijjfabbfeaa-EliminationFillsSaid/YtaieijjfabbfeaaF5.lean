/-
  Contract: the reference's Check of bags.
  The law EliminationChecks: it returns true.
  MADE BY PROGRAM (wip/gen/gen.py): functions 17 19 36 18 5 as marked code, and their claims written out.
  Contracts: law26.Few; the search in a list of bags with a function.
  The law EliminationTrees: it returns true.
  MADE BY PROGRAM (wip/gen/gen.py): functions 14 35 51 34 15 as marked code, and their claims written out.
  MADE BY PROGRAM (wip/gen/gen.py): functions 69 50 33 as marked code, and their claims written out.
  MADE BY PROGRAM (wip/gen/gen.py): functions 16 as marked code, and their claims written out.
  The executor as a claim: slices that may be empty, their rows; arrays in memory.
  Contracts: the reference's Perm and Order, its Adjacent and Neighbors, equality of lists of bags.
  Contracts: the reference's Order; equality of lists of bags.
  Contracts: the neighbors of the vertices, as the program computes them.
  Contracts: hypergraph.Neighbors, elimination.adjacency.
-/
import Derived.Test.YtaieijjfabbfeaaF4
import Derived.KernelRfl
set_option linter.unusedSimpArgs false
set_option linter.unusedVariables false
set_option linter.unusedSectionVars false
namespace Go.Proofs.Ytaieijjfabbfeaa
open Go.Clo

theorem subB_inside {a b : Nat} (hb : b < 4294967296) : (subB a b = true) ↔ inside b a := by
  unfold subB
  rw [decide_eq_true_eq]
  exact ⟨fun h i hi => h i (bit_high hb hi) hi, fun h i _ hi => h i hi⟩
theorem setOf_var {b : Bag} {v : Nat} (h : b.var = v) (hv : v < 32) : setOf b = b.key ||| 2 ^ v := by
  rw [setOf, if_neg (by omega), h]; rfl

theorem refCheck11 {n f : Nat} (hn : n ≤ 32) (hf : f ≤ n) (A : Option Addr) (es : List Nat) (cap : Nat) (B : Option Addr) (bs : List Bag) (capB : Nat) (H : Heap) (nx : Nat) (hS : Sl H nx A (u32s es)) (hsm : Small es) (hle : es.length ≤ 64) (hB : Sl H nx B (bagsC bs)) (hkey : KeyOK bs) :
    Ans Try.prog 11 [gv n A es.length cap, .int .i64 (f : Int), .slice B bs.length capB] H nx fun r H' nx' => r = .int .i64 (ccode n f es bs) ∧ Ext H nx H' nx' := by
  refine spec11 ?_
  unfold F11
  have hE : Ext H nx (hs H nx (some (.cells [.int .i64 (n : Int), .slice A es.length cap] 0))) (nx + 1) := (Ext.refl H nx).new _ (Nat.le_refl _) (by omega)
  simp (disch := first | omega | assumption | exact shr_lt (by assumption) | exact ndiff32 (by assumption) | exact below_lt (by omega) | fail) only [wBin_neq, wIf_bool, wFld_eq, wLen_slice, wNew_eq, dBox_agg, oneCells, wLd_none, ldP_cells, cellP_one, getH_same, forceV_eq, forceN_eq, Option.elim_some, List.getElem?_cons_zero, Yld.val, if_true, Nat.zero_add, Nat.add_zero, and_true, true_and, or_false]
  by_cases hlen : bs.length = n
  case neg =>
    have d1 : decide ((bs.length : Int) ≠ n) = true := by simp; omega
    simp (disch := first | omega | assumption | exact shr_lt (by assumption) | exact ndiff32 (by assumption) | exact below_lt (by omega) | fail) only [if_true, d1]
    exact ⟨by rw [ccode, if_pos hlen], hE⟩
  have d1 : decide ((bs.length : Int) ≠ n) = false := by simp; omega
  simp (disch := first | omega | assumption | exact shr_lt (by assumption) | exact ndiff32 (by assumption) | exact below_lt (by omega) | fail) only [if_false, Bool.false_eq_true, d1]
  -- the bags, one by one
  refine wLoop_rule (m := n) (fun m L H' nx' => ∃ i : Nat, m + i = n ∧ L = [.int .i64 (i : Int)] ∧ (∀ (j : Nat) (b : Bag), j < i → bs[j]? = some b → bcode n f j b = 0) ∧ Ext (hs H nx (some (.cells [.int .i64 (n : Int), .slice A es.length cap] 0))) (nx + 1) H' nx') ?_ ⟨0, rfl, rfl, fun j b h => by omega, Ext.refl _ _⟩
  rintro m ih L H3 nx3 ⟨i, hm, rfl, hst, hE3⟩ hih
  have hg3 := hE3.get nx (by omega)
  rw [getH_same] at hg3
  have hEE := hE.trans hE3
  have hnx3 := hE3.le
  simp (disch := first | omega | assumption | exact shr_lt (by assumption) | exact ndiff32 (by assumption) | exact below_lt (by omega) | fail) only [List.getD_cons_zero, wBin_lss, wIf_bool, ldP_cells, cellP_one, Option.elim_some, List.getElem?_cons_zero, and_true, wBin_add64, hg3]
  by_cases hi : i < n
  · have hi' : (i : Int) < (n : Int) := by omega
    obtain ⟨b, hb⟩ : ∃ b, bs[i]? = some b := ⟨_, List.getElem?_eq_getElem (by omega)⟩
    obtain ⟨B, o, row, rfl, hBn, hrow, hget⟩ := (hB.ext hEE).open (i := i * 3) (by rw [bagsC_length]; omega)
    have hgg := fun j v hv => hget _ v (bagsC_get hb j v hv)
    have g0 : row[o + i * 3]? = some (.int .i64 b.var) := hgg 0 _ rfl
    have g1 : row[o + i * 3 + 1]? = some (.int .u32 (b.key : Int)) := hgg 1 _ rfl
    have g2 : row[o + i * 3 + 2]? = some (.int .i64 b.par) := hgg 2 _ rfl
    simp (disch := first | omega | assumption | exact shr_lt (by assumption) | exact ndiff32 (by assumption) | exact below_lt (by omega) | fail) only [wLd_3, decide_true, if_true, true_and, wIdx_slice, Int.toNat_natCast, hi', ldP_row hrow, cellP_3 g0 g1 g2]
    refine wCall_rule (wrong30 (b := b) hn hi (hkey.get hb) _ _) ?_
    rintro _ H6 nx6 ⟨rfl, hE6⟩
    have hE36 : Ext H3 nx3 H6 nx6 := (Ext.self (by omega) : Ext H3 nx3 H3 (nx3 + 10)).trans hE6
    by_cases hc : bcode n f i b = 0
    · have d2 : decide (bcode n f i b ≠ 0) = false := by simp [hc]
      simp (disch := first | omega | assumption | exact shr_lt (by assumption) | exact ndiff32 (by assumption) | exact below_lt (by omega) | fail) only [wBin_neq, wIf_bool, if_false, Bool.false_eq_true, d2]
      refine hih (m - 1) _ _ _ (by omega) ⟨i + 1, by omega, by simp, fun j b' hj hb' => ?_, hE3.trans hE36⟩
      by_cases hji : j = i
      · subst hji; rw [hb] at hb'; cases hb'; exact hc
      · exact hst j b' (by omega) hb'
    · have d2 : decide (bcode n f i b ≠ 0) = true := by simp [hc]
      simp (disch := first | omega | assumption | exact shr_lt (by assumption) | exact ndiff32 (by assumption) | exact below_lt (by omega) | fail) only [wBin_neq, wIf_bool, if_true, d2]
      refine ⟨?_, hEE.trans hE36⟩
      have hbad := badAt_here hst hb hc
      rw [ccode, if_neg (by simpa using hlen), hbad, if_pos hc]
  have hi' : ¬ (i : Int) < (n : Int) := by omega
  have hbad : badAt n f bs 0 = 0 := badAt_none fun j b hb => hst j b (by have := lt_len hb; omega) hb
  have hright := right_of hbad
  have hpar : ∀ b ∈ bs, b.par < n := fun b hb => by
    obtain ⟨j, hj, rfl⟩ := List.getElem_of_mem hb
    rcases (hright j _ (List.getElem?_eq_getElem hj)).2.2 with ⟨_, h⟩ | ⟨_, _, h, _⟩ <;> omega
  simp (disch := first | omega | assumption | exact shr_lt (by assumption) | exact ndiff32 (by assumption) | exact below_lt (by omega) | fail) only [decide_false, if_false, Bool.false_eq_true, hi']
  clear hih
  -- the ways up
  refine wLoop_rule (m := n) (fun m L H' nx' => ∃ i : Nat, m + i = n ∧ L = [.int .i64 (i : Int)] ∧ (∀ j : Nat, j < i → up bs (n + 1) j < 0) ∧ H3 = H' ∧ nx3 = nx') ?_ ⟨0, rfl, rfl, fun j h => by omega, rfl, rfl⟩
  rintro m1 ih1 L1 _ _ ⟨v, hm1, rfl, hups, rfl, rfl⟩ hih1
  simp (disch := first | omega | assumption | exact shr_lt (by assumption) | exact ndiff32 (by assumption) | exact below_lt (by omega) | fail) only [List.getD_cons_zero, wBin_lss, wIf_bool, ldP_cells, cellP_one, Option.elim_some, List.getElem?_cons_zero, wBin_add64, hg3]
  by_cases hv : v < n
  · have hv' : (v : Int) < (n : Int) := by omega
    simp (disch := first | omega | assumption | exact shr_lt (by assumption) | exact ndiff32 (by assumption) | exact below_lt (by omega) | fail) only [decide_true, if_true, hv']
    refine wLoop_rule (m := n + 1) (fun m L H' nx' => ∃ (s : Nat), m + s = n + 1 ∧ L = [.int .i64 (up bs s v), .int .i64 (s : Int)] ∧ H3 = H' ∧ nx3 = nx') ?_ ⟨0, rfl, rfl, rfl, rfl⟩
    rintro m2 ih2 L2 _ _ ⟨s, hm2, rfl, rfl, rfl⟩ hih2
    simp (disch := first | omega | assumption | exact shr_lt (by assumption) | exact ndiff32 (by assumption) | exact below_lt (by omega) | fail) only [List.getD_cons_zero, List.getD_cons_succ, wBin_leq, wBin_geq, wIf_bool, wGuard_true, ldP_cells, cellP_one, Option.elim_some, List.getElem?_cons_zero, wBin_add64, hg3]
    by_cases hs : s ≤ n
    · have hs' : (s : Int) ≤ (n : Int) := by omega
      by_cases hup : 0 ≤ up bs s v
      · obtain ⟨p, hp⟩ := Int.eq_ofNat_of_zero_le hup
        have hpn : p < bs.length := by
          cases s with
          | zero => simp only [up] at hp; omega
          | succ s =>
            have h1 : 0 ≤ up bs s v := by
              rcases int_lt_or_ge (up bs s v) 0 with g | g
              · have := up_neg g (s + 1) (by omega); omega
              · exact g
            simp only [up, stepUp] at hp
            rw [if_neg (by omega)] at hp
            cases hq : bs[(up bs s v).toNat]? with
            | none => rw [hq] at hp; simp at hp
            | some q =>
              rw [hq] at hp
              simp at hp
              have := hpar q (List.mem_of_getElem? hq)
              omega
        obtain ⟨b, hb⟩ : ∃ b, bs[p]? = some b := ⟨_, List.getElem?_eq_getElem hpn⟩
        obtain ⟨B, o, row, rfl, hBn, hrow, hget⟩ := (hB.ext hEE).open (i := p * 3) (by rw [bagsC_length]; omega)
        have hgg := fun j v hv => hget _ v (bagsC_get hb j v hv)
        have g2 : row[o + p * 3 + 2]? = some (.int .i64 b.par) := hgg 2 _ rfl
        rw [hp] at hup ⊢
        simp (disch := first | omega | assumption | exact shr_lt (by assumption) | exact ndiff32 (by assumption) | exact below_lt (by omega) | fail) only [List.getD_cons_zero, wIf_bool, wFld_eq, wLd_none, cellP_one, Option.elim_some, decide_true, if_true, wIdx_slice, Int.toNat_natCast, wJoin_eq, hup, hs', ldP_row hrow, g2]
        refine hih2 (m2 - 1) _ _ _ (by omega) ⟨s + 1, by omega, ?_, rfl, rfl⟩
        rw [up_step hp hb]; simp
      · simp (disch := first | omega | assumption | exact shr_lt (by assumption) | exact ndiff32 (by assumption) | exact below_lt (by omega) | fail) only [List.getD_cons_zero, wIf_bool, decide_true, decide_false, if_true, if_false, Bool.false_eq_true, wJoin_eq, hup, hs']
        refine hih1 (m1 - 1) _ _ _ (by omega) ⟨v + 1, by omega, by simp, fun j hj => ?_, rfl, rfl⟩
        by_cases hjv : j = v
        · subst hjv; exact up_neg (k := s) (by omega) (n + 1) (by omega)
        · exact hups j (by omega)
    · have hs' : ¬ (s : Int) ≤ (n : Int) := by omega
      have hsn : s = n + 1 := by omega
      subst hsn
      by_cases hup : 0 ≤ up bs (n + 1) v
      · simp (disch := first | omega | assumption | exact shr_lt (by assumption) | exact ndiff32 (by assumption) | exact below_lt (by omega) | fail) only [List.getD_cons_zero, wIf_bool, decide_true, decide_false, if_true, if_false, Bool.false_eq_true, wJoin_eq, hup, hs']
        refine ⟨?_, hEE⟩
        have : 0 ≤ up bs n v := by
          rcases int_lt_or_ge (up bs n v) 0 with g | g
          · have := up_neg g (n + 1) (by omega); omega
          · exact g
        rw [ccode, if_neg (by simpa using hlen), if_neg (by simpa using hbad), if_pos ⟨v, by omega, this⟩]
      · simp (disch := first | omega | assumption | exact shr_lt (by assumption) | exact ndiff32 (by assumption) | exact below_lt (by omega) | fail) only [List.getD_cons_zero, wIf_bool, decide_false, if_false, Bool.false_eq_true, wJoin_eq, hup, hs']
        refine hih1 (m1 - 1) _ _ _ (by omega) ⟨v + 1, by omega, by simp, fun j hj => ?_, rfl, rfl⟩
        by_cases hjv : j = v
        · subst hjv; omega
        · exact hups j (by omega)
  have hv' : ¬ (v : Int) < (n : Int) := by omega
  have hno : ¬ ∃ v : Nat, v < n ∧ 0 ≤ up bs n v := by
    rintro ⟨u, hu, h⟩; have := hups u (by omega); have := up_more hlen hpar hu h; omega
  simp (disch := first | omega | assumption | exact shr_lt (by assumption) | exact ndiff32 (by assumption) | exact below_lt (by omega) | fail) only [decide_false, if_false, Bool.false_eq_true, hv']
  clear hih1
  -- the keys in the parents' bags
  refine wLoop_rule (m := n) (fun m L H' nx' => ∃ i : Nat, m + i = n ∧ L = [.int .i64 (i : Int)] ∧ (∀ (j : Nat) (b : Bag), j < i → bs[j]? = some b → fits1 bs b) ∧ Ext H3 nx3 H' nx') ?_ ⟨0, rfl, rfl, fun j b h => by omega, Ext.refl _ _⟩
  rintro m4 ih4 L4 H4 nx4 ⟨i4, hm4, rfl, hst4, hE4⟩ hih4
  have hEE4 := hEE.trans hE4
  have hg4 := (hE4.get nx (by omega)).trans hg3
  have hnx4 := hE4.le
  simp (disch := first | omega | assumption | exact shr_lt (by assumption) | exact ndiff32 (by assumption) | exact below_lt (by omega) | fail) only [List.getD_cons_zero, wBin_lss, wIf_bool, ldP_cells, cellP_one, Option.elim_some, List.getElem?_cons_zero, wBin_add64, hg4]
  by_cases hi4 : i4 < n
  · have hi4' : (i4 : Int) < (n : Int) := by omega
    obtain ⟨b, hb⟩ : ∃ b, bs[i4]? = some b := ⟨_, List.getElem?_eq_getElem (by omega)⟩
    obtain ⟨B, o, row, rfl, hBn, hrow, hget⟩ := (hB.ext hEE4).open (i := i4 * 3) (by rw [bagsC_length]; omega)
    have hgg := fun j v hv => hget _ v (bagsC_get hb j v hv)
    have g1 : row[o + i4 * 3 + 1]? = some (.int .u32 (b.key : Int)) := hgg 1 _ rfl
    have g2 : row[o + i4 * 3 + 2]? = some (.int .i64 b.par) := hgg 2 _ rfl
    have hk := hkey.get hb
    simp (disch := first | omega | assumption | exact shr_lt (by assumption) | exact ndiff32 (by assumption) | exact below_lt (by omega) | fail) only [wBin_geq, wGuard_true, wFld_eq, wLd_none, cellP_one, Option.elim_some, decide_true, if_true, wIdx_slice, Int.toNat_natCast, hi4', ldP_row hrow, g2]
    by_cases hpar4 : 0 ≤ b.par
    · obtain ⟨p, hp⟩ := Int.eq_ofNat_of_zero_le hpar4
      have hpn : p < n := by
        rcases (hright _ b hb).2.2 with ⟨_, h⟩ | ⟨_, _, h, _⟩ <;> omega
      obtain ⟨q, hq⟩ : ∃ q, bs[p]? = some q := ⟨_, List.getElem?_eq_getElem (by omega)⟩
      have hkq := hkey.get hq
      have hvq := (hright _ q hq).1
      have hq3 := fun j v hv => hget _ v (bagsC_get hq j v hv)
      have k0 : row[o + p * 3]? = some (.int .i64 q.var) := hq3 0 _ rfl
      have k1 : row[o + p * 3 + 1]? = some (.int .u32 (q.key : Int)) := hq3 1 _ rfl
      have k2 : row[o + p * 3 + 2]? = some (.int .i64 q.par) := hq3 2 _ rfl
      have hpp : (0 : Int) ≤ (p : Int) := by omega
      rw [hp]
      simp (disch := first | omega | assumption | exact shr_lt (by assumption) | exact ndiff32 (by assumption) | exact below_lt (by omega) | fail) only [List.getD_cons_zero, wLd_3, decide_true, if_true, and_true, wIdx_slice, Int.toNat_natCast, wJoin_eq, hpp, ldP_row hrow, cellP_3 k0 k1 k2]
      refine wCall_rule (set32 (b := q) hkq hvq (by omega) _ _) ?_
      rintro _ H11 nx11 ⟨rfl, hE11⟩
      have hE411 : Ext H4 nx4 H11 nx11 := (Ext.self (by omega) : Ext H4 nx4 H4 (nx4 + 16)).trans hE11
      have hrow11 : rowOf H11 B = some row := by rw [hE411.row hBn]; exact hrow
      simp (disch := first | omega | assumption | exact shr_lt (by assumption) | exact ndiff32 (by assumption) | exact below_lt (by omega) | fail) only [cellP_one, Option.elim_some, true_and, and_self, ldP_row hrow11, g1]
      refine wCall_rule (contains31 (setOf_lt hkq) hk _ _) ?_
      rintro _ _ _ ⟨rfl, rfl, rfl⟩
      simp (disch := first | omega | assumption | exact shr_lt (by assumption) | exact ndiff32 (by assumption) | exact below_lt (by omega) | fail) only [wIf_bool, wUn_not]
      have hfit : fits1 bs b ↔ subB (setOf q) b.key = true := by
        rw [subB_inside hk, setOf_var hvq (by omega)]
        constructor
        · intro h; have := h hpar4 q (by rw [hp]; exact hq); rw [hp] at this; exact this
        · intro h _ q' hq'
          rw [hp] at hq' ⊢
          have : q' = q := by
            have h2 : bs[p]? = some q' := hq'
            rw [hq] at h2; cases h2; rfl
          subst this; exact h
      cases hz : subB (setOf q) b.key with
      | true =>
        simp (disch := first | omega | assumption | exact shr_lt (by assumption) | exact ndiff32 (by assumption) | exact below_lt (by omega) | fail) only [if_false, Bool.false_eq_true, Bool.not_true]
        refine hih4 (m4 - 1) _ _ _ (by omega) ⟨i4 + 1, by omega, by simp, fun j b' hj hb' => ?_, hE4.trans hE411⟩
        by_cases hji : j = i4
        · subst hji; rw [hb] at hb'; cases hb'; exact hfit.2 hz
        · exact hst4 j b' (by omega) hb'
      | false =>
        simp (disch := first | omega | assumption | exact shr_lt (by assumption) | exact ndiff32 (by assumption) | exact below_lt (by omega) | fail) only [if_true, Bool.not_false]
        refine ⟨?_, hEE4.trans hE411⟩
        rw [ccode, if_neg (by simpa using hlen), if_neg (by simpa using hbad), if_neg hno, if_pos ⟨b, List.mem_of_getElem? hb, fun h => by rw [hfit.1 h] at hz; cases hz⟩]
    · simp (disch := first | omega | assumption | exact shr_lt (by assumption) | exact ndiff32 (by assumption) | exact below_lt (by omega) | fail) only [List.getD_cons_zero, wIf_bool, decide_false, if_false, Bool.false_eq_true, wJoin_eq, hpar4]
      refine hih4 (m4 - 1) _ _ _ (by omega) ⟨i4 + 1, by omega, by simp, fun j b' hj hb' => ?_, hE4.more (by omega)⟩
      by_cases hji : j = i4
      · subst hji; rw [hb] at hb'; cases hb'; exact fun h => absurd h hpar4
      · exact hst4 j b' (by omega) hb'
  have hi4' : ¬ (i4 : Int) < (n : Int) := by omega
  have hfits : ¬ ∃ b ∈ bs, ¬ fits1 bs b := by
    rintro ⟨b, hb, h⟩
    obtain ⟨j, hj, rfl⟩ := List.getElem_of_mem hb
    exact h (hst4 j _ (by omega) (List.getElem?_eq_getElem hj))
  simp (disch := first | omega | assumption | exact shr_lt (by assumption) | exact ndiff32 (by assumption) | exact below_lt (by omega) | fail) only [decide_false, if_false, Bool.false_eq_true, hi4']
  clear hih4
  -- the edges
  refine wLoop_rule (m := es.length) (fun m L H' nx' => ∃ i : Nat, m + i = es.length ∧ L = [.int .i64 (i : Int)] ∧ (∀ (j e : Nat), j < i → es[j]? = some e → covers bs e) ∧ Ext H4 nx4 H' nx') ?_ ⟨0, rfl, rfl, fun j b h => by omega, Ext.refl _ _⟩
  rintro m5 ih5 L5 H5 nx5 ⟨i5, hm5, rfl, hst5, hE5⟩ hih5
  have hEE5 := hEE4.trans hE5
  have hg5 := (hE5.get nx (by omega)).trans hg4
  have hnx5 := hE5.le
  simp (disch := first | omega | assumption | exact shr_lt (by assumption) | exact ndiff32 (by assumption) | exact below_lt (by omega) | fail) only [List.getD_cons_zero, wBin_lss, wIf_bool, wLen_slice, ldP_cells, cellP_one, Option.elim_some, List.getElem?_cons_zero, List.getElem?_cons_succ, wBin_add64, hg5]
  by_cases hi5 : i5 < es.length
  · have hi5' : (i5 : Int) < (es.length : Int) := by omega
    obtain ⟨e, he⟩ : ∃ e, es[i5]? = some e := ⟨_, List.getElem?_eq_getElem hi5⟩
    obtain ⟨A, oA, rowA, rfl, hAn, hrowA, hgetA⟩ := (hS.ext hEE5).open (i := i5) (by rw [u32s_length]; omega)
    have he32 := hsm.get he
    simp (disch := first | omega | assumption | exact shr_lt (by assumption) | exact ndiff32 (by assumption) | exact below_lt (by omega) | fail) only [wBin_eql, wLd_none, cellP_one, Option.elim_some, decide_true, if_true, wIdx_slice, Int.toNat_natCast, Nat.mul_one, u32_eq_zero, hi5', ldP_row hrowA, hgetA _ _ (u32s_get he)]
    refine wLoop_rule (m := n) (fun m L H' nx' => ∃ (i : Nat) (c : Bool), m + i = n ∧ L = [.bool c, .int .i64 (i : Int)] ∧ (c = true ↔ e = 0 ∨ ∃ (j : Nat) (b : Bag), j < i ∧ bs[j]? = some b ∧ inside e (setOf b)) ∧ Ext H5 nx5 H' nx') ?_ ⟨0, _, rfl, rfl, by simp, Ext.refl _ _⟩
    rintro m6 ih6 L6 H6 nx6 ⟨i6, c, hm6, rfl, hc, hE6⟩ hih6
    have hEE6 := hEE5.trans hE6
    have hg6 := (hE6.get nx (by omega)).trans hg5
    have hrowA6 : rowOf H6 A = some rowA := by rw [hE6.row hAn]; exact hrowA
    have hnx6 := hE6.le
    simp (disch := first | omega | assumption | exact shr_lt (by assumption) | exact ndiff32 (by assumption) | exact below_lt (by omega) | fail) only [List.getD_cons_zero, List.getD_cons_succ, wBin_lss, wIf_bool, wGuard_false, wUn_not, ldP_cells, cellP_one, Option.elim_some, List.getElem?_cons_zero, List.getElem?_cons_succ, wBin_add64, hg6]
    by_cases hi6 : i6 < n
    · have hi6' : (i6 : Int) < (n : Int) := by omega
      obtain ⟨b, hb⟩ : ∃ b, bs[i6]? = some b := ⟨_, List.getElem?_eq_getElem (by omega)⟩
      obtain ⟨B, o, row, rfl, hBn, hrow, hget⟩ := (hB.ext hEE6).open (i := i6 * 3) (by rw [bagsC_length]; omega)
      have hgg := fun j v hv => hget _ v (bagsC_get hb j v hv)
      have g0 : row[o + i6 * 3]? = some (.int .i64 b.var) := hgg 0 _ rfl
      have g1 : row[o + i6 * 3 + 1]? = some (.int .u32 (b.key : Int)) := hgg 1 _ rfl
      have g2 : row[o + i6 * 3 + 2]? = some (.int .i64 b.par) := hgg 2 _ rfl
      have hk := hkey.get hb
      have hvb := (hright _ b hb).1
      have next : ∀ (c' : Bool) H' nx', (c' = true ↔ c = true ∨ inside e (setOf b)) → Ext H6 nx6 H' nx' → ih6 [.bool c', .int .i64 ((i6 : Int) + 1)] H' nx' := by
        intro c' H' nx' hc' hE'
        refine hih6 (m6 - 1) _ _ _ (by omega) ⟨i6 + 1, c', by omega, by simp, ?_, hE6.trans hE'⟩
        rw [hc', hc]
        constructor
        · rintro ((h | ⟨j, b', h1, h2, h3⟩) | h)
          · exact .inl h
          · exact .inr ⟨j, b', by omega, h2, h3⟩
          · exact .inr ⟨i6, b, by omega, hb, h⟩
        · rintro (h | ⟨j, b', h1, h2, h3⟩)
          · exact .inl (.inl h)
          · by_cases hji : j = i6
            · subst hji; rw [hb] at h2; cases h2; exact .inr h3
            · exact .inl (.inr ⟨j, b', by omega, h2, h3⟩)
      cases c with
      | true =>
        simp (disch := first | omega | assumption | exact shr_lt (by assumption) | exact ndiff32 (by assumption) | exact below_lt (by omega) | fail) only [List.getD_cons_zero, wLd_3, decide_true, if_true, if_false, Bool.false_eq_true, Bool.not_true, wIdx_slice, Int.toNat_natCast, wJoin_eq, hi6']
        exact next true _ _ (by simp) (Ext.self (by omega))
      | false =>
        simp (disch := first | omega | assumption | exact shr_lt (by assumption) | exact ndiff32 (by assumption) | exact below_lt (by omega) | fail) only [List.getD_cons_zero, wLd_3, decide_true, if_true, if_false, Bool.false_eq_true, and_true, Bool.not_false, wIdx_slice, Int.toNat_natCast, wJoin_eq, hi6', ldP_row hrow, cellP_3 g0 g1 g2]
        refine wCall_rule (set32 (b := b) hk hvb (by omega) _ _) ?_
        rintro _ H7 nx7 ⟨rfl, hE7⟩
        have hE67 : Ext H6 nx6 H7 nx7 := (Ext.self (by omega) : Ext H6 nx6 H6 (nx6 + 15)).trans hE7
        have hg7 := (hE67.get nx (by omega)).trans hg6
        have hrowA7 : rowOf H7 A = some rowA := by rw [hE67.row (by omega)]; exact hrowA6
        simp (disch := first | omega | assumption | exact shr_lt (by assumption) | exact ndiff32 (by assumption) | exact below_lt (by omega) | fail) only [wLd_none, ldP_cells, cellP_one, Option.elim_some, List.getElem?_cons_zero, List.getElem?_cons_succ, and_true, true_and, and_self, wIdx_slice, Int.toNat_natCast, Nat.mul_one, hg7, ldP_row hrowA7, hgetA _ _ (u32s_get he)]
        refine wCall_rule (contains31 (setOf_lt hk) he32 _ _) ?_
        rintro _ _ _ ⟨rfl, rfl, rfl⟩
        simp (disch := first | omega | assumption | exact shr_lt (by assumption) | exact ndiff32 (by assumption) | exact below_lt (by omega) | fail) only [cellP_one, Option.elim_some, true_and, ldP_row hrowA6, hgetA _ _ (u32s_get he)]
        exact next _ _ _ (by rw [subB_inside he32]; simp) hE67
    · have hi6' : ¬ (i6 : Int) < (n : Int) := by omega
      have hcov : c = true ↔ covers bs e := by
        rw [hc]
        constructor
        · rintro (h | ⟨j, b, _, h2, h3⟩)
          · exact .inl h
          · exact .inr ⟨b, List.mem_of_getElem? h2, h3⟩
        · rintro (h | ⟨b, h2, h3⟩)
          · exact .inl h
          · obtain ⟨j, hj, rfl⟩ := List.getElem_of_mem h2
            exact .inr ⟨j, _, by omega, List.getElem?_eq_getElem hj, h3⟩
      cases c with
      | false =>
        simp (disch := first | omega | assumption | exact shr_lt (by assumption) | exact ndiff32 (by assumption) | exact below_lt (by omega) | fail) only [decide_false, if_true, if_false, Bool.false_eq_true, Bool.not_false, hi6']
        refine ⟨?_, hEE6⟩
        rw [ccode, if_neg (by simpa using hlen), if_neg (by simpa using hbad), if_neg hno, if_neg hfits, if_pos ⟨e, List.mem_of_getElem? he, fun h => by have := hcov.2 h; cases this⟩]
      | true =>
        simp (disch := first | omega | assumption | exact shr_lt (by assumption) | exact ndiff32 (by assumption) | exact below_lt (by omega) | fail) only [decide_false, if_true, if_false, Bool.false_eq_true, Bool.not_true, hi6']
        refine hih5 (m5 - 1) _ _ _ (by omega) ⟨i5 + 1, by omega, by simp, fun j e' hj he' => ?_, hE5.trans hE6⟩
        by_cases hji : j = i5
        · subst hji; rw [he] at he'; cases he'; exact hcov.1 rfl
        · exact hst5 j e' (by omega) he'
  · have hi5' : ¬ (i5 : Int) < (es.length : Int) := by omega
    simp (disch := first | omega | assumption | exact shr_lt (by assumption) | exact ndiff32 (by assumption) | exact below_lt (by omega) | fail) only [decide_false, if_false, Bool.false_eq_true, hi5']
    refine ⟨?_, hEE5⟩
    have hcov : ¬ ∃ e ∈ es, ¬ covers bs e := by
      rintro ⟨e, he, h⟩
      obtain ⟨j, hj, rfl⟩ := List.getElem_of_mem he
      exact h (hst5 j _ (by omega) (List.getElem?_eq_getElem hj))
    rw [ccode, if_neg (by simpa using hlen), if_neg (by simpa using hbad), if_neg hno, if_neg hfits, if_neg hcov]
end Go.Proofs.Ytaieijjfabbfeaa

set_option linter.unusedSimpArgs false
set_option linter.unusedVariables false
set_option linter.unusedSectionVars false
namespace Go.Proofs.Ytaieijjfabbfeaa
open Go.Clo

theorem awake7 (H : Heap) (nx : Nat) : Ans Try.prog 7 [] H nx fun v' H' nx' => .bool true = v' ∧ H = H' ∧ nx = nx' :=
  ans_of_run mixed namesOK (noOrc_ok _) awake_run rfl rfl H nx

theorem law3 (N free : Int) (A : Option Addr) (es : List Nat) (cap : Nat) (B : Option Addr) (bs : List Bag) (capB : Nat) (H : Heap) (nx : Nat) (hS : Sl H nx A (u32s es)) (hsm : Small es) (hB : Sl H nx B (bagsC bs)) (hkey : KeyOK bs) :
    Ans Try.prog 3 [gv N A es.length cap, .int .i64 free, .slice B bs.length capB] H nx fun r _ _ => r = .bool true := by
  refine spec3 ?_
  unfold F3
  have hE1 : Ext H nx (hs H nx (some (.cells [.int .i64 N, .slice A es.length cap] 0))) (nx + 1) := (Ext.refl H nx).new _ (Nat.le_refl _) (by omega)
  simp (disch := first | omega | assumption | exact shr_lt (by assumption) | exact ndiff32 (by assumption) | exact below_lt (by omega) | fail) only [List.getD_cons_zero, wBin_lss, wBin_gtr, wIf_bool, wGuard_false, wFld_eq, wLen_slice, wNew_eq, dBox_agg, oneCells, wLd_none, wLd_2, ldP_cells, cellP_one, getH_same, forceV_eq, Option.elim_some, List.getElem?_cons_zero, List.getElem?_cons_succ, Yld.val, if_true, Nat.zero_add, Nat.add_zero, wJoin_eq]
  by_cases hbig : 70 < es.length ∨ 40 < bs.length
  case pos =>
    rcases hbig with h | h
    · have h1 : (es.length : Int) > 70 := by omega
      simp (disch := first | omega | assumption | exact shr_lt (by assumption) | exact ndiff32 (by assumption) | exact below_lt (by omega) | fail) only [decide_true, if_true, h1]
      refine wCall_rule (awake7 _ _) ?_
      rintro _ _ _ ⟨rfl, rfl, rfl⟩
      simp (disch := first | omega | assumption | exact shr_lt (by assumption) | exact ndiff32 (by assumption) | exact below_lt (by omega) | fail) only []
    · have h2 : (bs.length : Int) > 40 := by omega
      by_cases h1 : (es.length : Int) > 70
      · simp (disch := first | omega | assumption | exact shr_lt (by assumption) | exact ndiff32 (by assumption) | exact below_lt (by omega) | fail) only [decide_true, if_true, h1]
        refine wCall_rule (awake7 _ _) ?_
        rintro _ _ _ ⟨rfl, rfl, rfl⟩
        simp (disch := first | omega | assumption | exact shr_lt (by assumption) | exact ndiff32 (by assumption) | exact below_lt (by omega) | fail) only []
      · simp (disch := first | omega | assumption | exact shr_lt (by assumption) | exact ndiff32 (by assumption) | exact below_lt (by omega) | fail) only [decide_true, decide_false, if_true, if_false, Bool.false_eq_true, h1, h2]
        refine wCall_rule (awake7 _ _) ?_
        rintro _ _ _ ⟨rfl, rfl, rfl⟩
        simp (disch := first | omega | assumption | exact shr_lt (by assumption) | exact ndiff32 (by assumption) | exact below_lt (by omega) | fail) only []
  have h1 : ¬ (es.length : Int) > 70 := by omega
  have h2 : ¬ (bs.length : Int) > 40 := by omega
  simp (disch := first | omega | assumption | exact shr_lt (by assumption) | exact ndiff32 (by assumption) | exact below_lt (by omega) | fail) only [decide_false, if_false, Bool.false_eq_true, h1, h2, cellP_lit2]
  refine wCall_rule (check8 N free A es cap B bs capB _ _ (hS.ext hE1) hsm (hB.ext hE1) hkey) ?_
  rintro _ H2 nx2 ⟨rfl, hE2⟩
  have hg2 := hE2.get nx (by omega)
  rw [getH_same] at hg2
  have hnx2 := hE2.le
  simp (disch := first | omega | assumption | exact shr_lt (by assumption) | exact ndiff32 (by assumption) | exact below_lt (by omega) | fail) only [wBin_eql, ldP_cells, hg2, cellP_lit2]
  refine wCall_rule (of10 N A es.length cap _ _) ?_
  rintro _ H3 nx3 ⟨rfl, hE3⟩
  have hEE3 := (hE1.trans hE2).trans hE3
  refine wCall_rule (check9 N A es cap _ _ (hS.ext hEE3) hsm) ?_
  rintro _ H4 nx4 ⟨rfl, hE4⟩
  have hEE4 := hEE3.trans hE4
  have hg4 := ((hE3.trans hE4).get nx (by omega)).trans hg2
  have hnx4 := (hE3.trans hE4).le
  by_cases hg0 : gcode N es = 0
  case neg =>
    have d1 : decide (gcode N es ≠ 0) = true := by simp [hg0]
    simp (disch := first | omega | assumption | exact shr_lt (by assumption) | exact ndiff32 (by assumption) | exact below_lt (by omega) | fail) only [wBin_eql, wBin_neq, wIf_bool, if_true, d1]
    refine wCall_rule (awake7 _ _) ?_
    rintro _ _ _ ⟨rfl, rfl, rfl⟩
    have hc : chk N free es bs = gcode N es := by
      have : fcode N free es = gcode N es := by unfold fcode; rw [if_pos hg0]
      rw [chk, this, if_pos hg0]
    simp (disch := first | omega | assumption | exact shr_lt (by assumption) | exact ndiff32 (by assumption) | exact below_lt (by omega) | fail) only [wGuard_true, decide_true, if_true, hc]
  have d1 : decide (gcode N es ≠ 0) = false := by simp [hg0]
  obtain ⟨n, rfl⟩ : ∃ n : Nat, N = n := by
    have : ¬ (N < 0 ∨ 32 < N) := fun h => by rw [gcode_range h] at hg0; omega
    exact ⟨N.toNat, by omega⟩
  have hn : n ≤ 32 := by
    rcases Nat.lt_or_ge 32 n with h | h
    · rw [gcode_range (.inr (by omega))] at hg0; omega
    · exact h
  have hle : es.length ≤ 64 := by
    rcases Nat.lt_or_ge 64 es.length with h | h
    · rw [gcode_many (by omega) (by omega) h] at hg0; omega
    · exact h
  by_cases hf : free < 0 ∨ n < free
  case pos =>
    have hc : chk n free es bs = 3 := by
      have : fcode n free es = 3 := by unfold fcode; rw [if_neg (by simpa using hg0), if_pos hf]
      rw [chk, this, if_pos (by decide)]
    rcases hf with h | h
    · simp (disch := first | omega | assumption | exact shr_lt (by assumption) | exact ndiff32 (by assumption) | exact below_lt (by omega) | fail) only [wBin_eql, wBin_neq, wIf_bool, decide_true, if_true, if_false, Bool.false_eq_true, d1, h]
      refine wCall_rule (awake7 _ _) ?_
      rintro _ _ _ ⟨rfl, rfl, rfl⟩
      simp (disch := first | omega | assumption | exact shr_lt (by assumption) | exact ndiff32 (by assumption) | exact below_lt (by omega) | fail) only [wGuard_true, decide_true, if_true, hc]
    · have h3 : ¬ free < 0 := by omega
      simp (disch := first | omega | assumption | exact shr_lt (by assumption) | exact ndiff32 (by assumption) | exact below_lt (by omega) | fail) only [wBin_gtr, wBin_eql, wBin_neq, wIf_bool, ldP_cells, cellP_one, Option.elim_some, List.getElem?_cons_zero, decide_true, decide_false, if_true, if_false, Bool.false_eq_true, d1, h3, hg4, h]
      refine wCall_rule (awake7 _ _) ?_
      rintro _ _ _ ⟨rfl, rfl, rfl⟩
      simp (disch := first | omega | assumption | exact shr_lt (by assumption) | exact ndiff32 (by assumption) | exact below_lt (by omega) | fail) only [wGuard_true, decide_true, if_true, hc]
  obtain ⟨f, rfl⟩ : ∃ f : Nat, free = f := ⟨free.toNat, by omega⟩
  have h3 : ¬ (f : Int) < 0 := by omega
  have h4 : ¬ (f : Int) > (n : Int) := by omega
  simp (disch := first | omega | assumption | exact shr_lt (by assumption) | exact ndiff32 (by assumption) | exact below_lt (by omega) | fail) only [wBin_gtr, wBin_eql, wBin_neq, wIf_bool, ldP_cells, cellP_one, Option.elim_some, List.getElem?_cons_zero, decide_false, if_false, Bool.false_eq_true, d1, h3, h4, hg4, cellP_lit2]
  refine wCall_rule (of10 n A es.length cap _ _) ?_
  rintro _ H5 nx5 ⟨rfl, hE5⟩
  have hEE5 := hEE4.trans hE5
  refine wCall_rule (of12 B bs capB _ _ (hB.ext hEE5) (by omega)) ?_
  rintro _ H6 nx6 ⟨hA, hE6⟩
  obtain ⟨B', rfl, hB'⟩ := hA.sl
  refine wCall_rule (refCheck11 hn (by omega) A es cap B' bs bs.length _ _ (hS.ext (hEE5.trans hE6)) hsm hle hB' hkey) ?_
  rintro _ H7 nx7 ⟨rfl, hE7⟩
  simp (disch := first | omega | assumption | exact shr_lt (by assumption) | exact ndiff32 (by assumption) | exact below_lt (by omega) | fail) only [wBin_eql]
  refine wCall_rule (awake7 _ _) ?_
  rintro _ _ _ ⟨rfl, rfl, rfl⟩
  have hc : chk n f es bs = ccode n f es bs := by
    have : fcode n f es = 0 := by unfold fcode; rw [if_neg (by simpa using hg0), if_neg (by omega)]
    rw [chk, this, if_neg (by decide)]; simp
  simp (disch := first | omega | assumption | exact shr_lt (by assumption) | exact ndiff32 (by assumption) | exact below_lt (by omega) | fail) only [wGuard_true, decide_true, if_true, hc]
end Go.Proofs.Ytaieijjfabbfeaa

set_option linter.unusedSimpArgs false
set_option linter.unusedVariables false
set_option linter.unusedSectionVars false
namespace Go.Proofs.Ytaieijjfabbfeaa
open Go.Clo
set_option maxRecDepth 100000
/-! 17: ordinal/ordinallaw26.Few -/
def d17 : D :=
  (.seq
    (.ops [
        (none, [⟨none, some 1, .a (.box (.s 0))⟩,
        ⟨none, some 2, .p (.mv (.c (.bool false)))⟩])] (.one .nil))
    (.seq
      (.ops [
          (none, [⟨none, some 3, .p (.fld (.s 1) 0)⟩,
          ⟨none, some 4, .r (.ld (.s 3) none)⟩,
          ⟨none, some 5, .p (.bin .geq (.s 4) (.c (.int .i64 0)))⟩,
          ⟨none, some 6, .p (.mv (.s 5))⟩]),
          (some (6, true), [⟨none, some 7, .p (.fld (.s 1) 0)⟩,
          ⟨none, some 8, .r (.ld (.s 7) none)⟩,
          ⟨none, some 9, .p (.bin .leq (.s 8) (.c (.int .i64 6)))⟩]),
          (none, [⟨none, some 10, .p (.pick (.s 6) (.s 9) (.c (.bool false)))⟩,
          ⟨none, some 11, .p (.mv (.s 10))⟩]),
          (some (11, true), [⟨none, some 12, .p (.fld (.s 1) 1)⟩,
          ⟨none, some 13, .r (.ld (.s 12) none)⟩,
          ⟨none, some 14, .r (.len (.s 13) 0)⟩,
          ⟨none, some 15, .p (.bin .leq (.s 14) (.c (.int .i64 8)))⟩]),
          (none, [⟨none, some 16, .p (.pick (.s 11) (.s 15) (.c (.bool false)))⟩,
          ⟨none, some 17, .p (.mv (.s 16))⟩]),
          (some (17, true), [⟨none, some 18, .r (.ld (.s 1) (some 2))⟩,
          ⟨none, some 19, .e (.call (.c (.func (.func 10) ⟨[]⟩ ⟨[]⟩)) [.s 18])⟩,
          ⟨none, some 20, .e (.call (.c (.func (.func 9) ⟨[]⟩ ⟨[]⟩)) [.s 19])⟩,
          ⟨none, some 21, .p (.bin .eql (.s 20) (.c (.int .i64 0)))⟩]),
          (none, [⟨none, some 22, .p (.pick (.s 17) (.s 21) (.c (.bool false)))⟩,
          ⟨none, some 2, .p (.mv (.s 22))⟩])] (.one (.tst (.one (.tst (.one (.tst (.one .nil) (.one .nil))) (.one (.one (.one .nil))))) (.one (.one (.one (.one (.one .nil))))))))
      .ret))
theorem cfn17 : cfn Try.prog 17 = some ⟨23, 5, d17.erase, [(.s 2, none)]⟩ := by kernel_rfl
theorem ok17 : d17.ok 23 5 = true := by kernel_rfl
noncomputable def F17 (a0 : Value) (H : Heap) (nx : Nat) (k : EP) : Prop :=
  dBox a0 fun tc_1 => wNew (.cells tc_1 0) .ptr H nx fun t1_2 H1 nx1 =>
  wFld t1_2 0 fun t3_3 =>
  wLd t3_3 none H1 fun t4_4 =>
  wBin .geq t4_4 (.int .i64 0) fun t5_5 =>
  wGuard true t5_5 (
    wFld t1_2 0 fun t7_6 =>
    wLd t7_6 none H1 fun t8_7 =>
    wBin .leq t8_7 (.int .i64 6) fun t9_8 =>
    wGuard true t9_8 (
      wFld t1_2 1 fun t12_9 =>
      wLd t12_9 none H1 fun t13_10 =>
      wLen t13_10 0 H1 fun t14_11 =>
      wBin .leq t14_11 (.int .i64 8) fun t15_12 =>
      wGuard true t15_12 (
        wLd t1_2 (some 2) H1 fun t18_13 =>
        wCall Try.prog 10 [t18_13] H1 nx1 fun t19_14 H2 nx2 =>
        wCall Try.prog 9 [t19_14] H2 nx2 fun t20_15 H3 nx3 =>
        wBin .eql t20_15 (.int .i64 0) fun t21_16 =>
        forceV t21_16 fun tv_17 => k tv_17 H3 nx3) (
        forceV (.bool false) fun tv_18 => k tv_18 H1 nx1)) (
        forceV (.bool false) fun tv_19 => k tv_19 H1 nx1)) (
        forceV (.bool false) fun tv_20 => k tv_20 H1 nx1)
theorem eq17 (a0 : Value) (H : Heap) (nx : Nat) (k : EP) : wBody Try.prog 23 5 d17 [(.s 2, none)] [a0] H nx k = F17 a0 H nx k := by kernel_rfl
theorem spec17 {a0 : Value} {H : Heap} {nx : Nat} {k : EP} (h : F17 a0 H nx k) : Ans Try.prog 17 [a0] H nx k :=
  spec_of_body mixed namesOK cfn17 ok17 (by simp) ((eq17 a0 H nx k).symm ▸ h)

/-! 19: ordinal/ordinallaw30.EliminationTrees.1 -/
def d19 : D :=
  (.seq
    (.ops [
        (none, [⟨none, some 2, .a (.box (.s 0))⟩,
        ⟨none, some 3, .p (.mv (.c (.bool false)))⟩])] (.one .nil))
    (.seq
      (.draw [0, 0, 2, 7, 15, 31] [
          (none, [⟨none, some 4, .r (.ld (.s 1) none)⟩,
          ⟨none, some 5, .r (.ld (.s 2) (some 3))⟩,
          ⟨none, some 6, .e (.call (.c (.func (.func 20) ⟨[]⟩ ⟨[]⟩)) [.s 5])⟩,
          ⟨none, some 7, .p (.bin .andNot (.s 4) (.s 6))⟩,
          ⟨none, some 8, .p (.bin .eql (.s 7) (.c (.int .u32 0)))⟩,
          ⟨none, some 3, .p (.mv (.s 8))⟩])] (.one .nil))
      .ret))
theorem cfn19 : cfn Try.prog 19 = some ⟨9, 4, d19.erase, [(.s 3, none)]⟩ := by kernel_rfl
theorem ok19 : d19.ok 9 4 = true := by kernel_rfl
noncomputable def F19 (a0 a1 : Value) (H : Heap) (nx : Nat) (k : EP) : Prop :=
  dBox a0 fun tc_1 => wNew (.cells tc_1 0) .ptr H nx fun t2_2 H1 nx1 =>
  forceN (nx1 + 6) fun nx2 =>
  wLd a1 none H1 fun t4_3 =>
  wLd t2_2 (some 3) H1 fun t5_4 =>
  wCall Try.prog 20 [t5_4] H1 nx2 fun t6_5 H3 nx3 =>
  wBin .andNot t4_3 t6_5 fun t7_6 =>
  wBin .eql t7_6 (.int .u32 0) fun t8_7 =>
  (((((True) ∧ ((wLd t2_2 (some 3) H1 fun tq_10 => tq_10 = t5_4) ∧ True)) ∧ (((wLd a1 none H3 fun tq_8 => tq_8 = t4_3) ∧ ((wLd a1 none H1 fun tq_9 => tq_9 = t4_3) ∧ True)) ∧ True))) ∧ (
    forceV t8_7 fun tv_11 => k tv_11 H3 nx3)) ∨ False
theorem eq19 (a0 a1 : Value) (H : Heap) (nx : Nat) (k : EP) : wBody Try.prog 9 4 d19 [(.s 3, none)] [a0, a1] H nx k = F19 a0 a1 H nx k := by kernel_rfl
theorem spec19 {a0 a1 : Value} {H : Heap} {nx : Nat} {k : EP} (h : F19 a0 a1 H nx k) : Ans Try.prog 19 [a0, a1] H nx k :=
  spec_of_body mixed namesOK cfn19 ok19 (by simp) ((eq19 a0 a1 H nx k).symm ▸ h)

/-! 36: slices.IndexFunc[[]ordinal/elimination.Bag,ordinal/elimination.Bag] -/
def d36 : D :=
  (.seq
    (.ops [
        (none, [⟨none, some 4, .p (.mv (.c (.int .i64 0)))⟩])] (.one .nil))
    (.seq
      (.seq
        (.ops [
            (none, [⟨none, some 6, .p (.mv (.s 0))⟩,
            ⟨none, some 7, .r (.len (.s 6) 0)⟩,
            ⟨none, some 8, .p (.mv (.c (.int .i64 0)))⟩])] (.one .nil))
        (.block 0
          (.loop [8] [4, 5, 9, 10, 11, 12, 13, 14, 15, 16, 17, 18]
            (.seq
              (.ops [
                  (none, [⟨none, some 9, .p (.bin .lss (.s 8) (.s 7))⟩])] (.one .nil))
              (.seq
                (.cond (.s 9)
                  .skip
                  (.exit 0))
                (.seq
                  (.block 1
                    (.seq
                      (.ops [
                          (none, [⟨none, some 10, .p (.mv (.s 8))⟩,
                          ⟨none, some 5, .p (.mv (.s 10))⟩])] (.one .nil))
                      (.seq
                        (.ops [
                            (none, [⟨none, some 11, .p (.mv (.s 1))⟩,
                            ⟨none, some 12, .p (.mv (.s 0))⟩,
                            ⟨none, some 13, .p (.mv (.s 5))⟩,
                            ⟨none, some 14, .p (.idx (.s 12) (.s 13) none 3)⟩,
                            ⟨none, some 15, .r (.ld (.s 14) (some 3))⟩,
                            ⟨none, some 16, .e (.call (.s 11) [.s 15])⟩])] (.one .nil))
                        (.cond (.s 16)
                          (.seq
                            (.ops [
                                (none, [⟨none, some 17, .p (.mv (.s 5))⟩,
                                ⟨none, some 4, .p (.mv (.s 17))⟩])] (.one .nil))
                            .ret)
                          .skip))))
                  (.ops [
                      (none, [⟨none, some 18, .p (.bin .add (.s 8) (.c (.int .i64 1)))⟩,
                      ⟨none, some 8, .p (.mv (.s 18))⟩])] (.one .nil))))))))
      (.seq
        (.ops [
            (none, [⟨none, some 4, .p (.mv (.c (.int .i64 (-1))))⟩])] (.one .nil))
        .ret)))
theorem cfn36 : cfn Try.prog 36 = some ⟨19, 5, d36.erase, [(.s 4, none)]⟩ := by kernel_rfl
theorem ok36 : d36.ok 19 5 = true := by kernel_rfl
noncomputable def F36 (a0 a1 : Value) (H : Heap) (nx : Nat) (k : EP) : Prop :=
  wLen a0 0 H fun t7_1 =>
  wLoop (fun tih_2 tL_3 H1 nx1 =>
    wBin .lss (tL_3.getD 0 undef) t7_1 fun t9_4 =>
    wIf t9_4 (
      wIdx a0 (tL_3.getD 0 undef) none 3 fun t14_5 =>
      wLd t14_5 (some 3) H1 fun t15_6 =>
      wCallV Try.prog a1 [t15_6] H1 nx1 fun t16_7 H2 nx2 =>
      wIf t16_7 (
        forceV (tL_3.getD 0 undef) fun tv_8 => k tv_8 H2 nx2) (
        wBin .add (tL_3.getD 0 undef) (.int .i64 1) fun t18_9 =>
        tih_2 [t18_9] H2 nx2)) (
      forceV (.int .i64 (-1)) fun tv_10 => k tv_10 H1 nx1)) [(.int .i64 0)] H nx
theorem eq36 (a0 a1 : Value) (H : Heap) (nx : Nat) (k : EP) : wBody Try.prog 19 5 d36 [(.s 4, none)] [a0, a1] H nx k = F36 a0 a1 H nx k := by kernel_rfl
theorem spec36 {a0 a1 : Value} {H : Heap} {nx : Nat} {k : EP} (h : F36 a0 a1 H nx k) : Ans Try.prog 36 [a0, a1] H nx k :=
  spec_of_body mixed namesOK cfn36 ok36 (by simp) ((eq36 a0 a1 H nx k).symm ▸ h)

/-! 18: slices.ContainsFunc[[]ordinal/elimination.Bag,ordinal/elimination.Bag] -/
def d18 : D :=
  (.seq
    (.ops [
        (none, [⟨none, some 4, .p (.mv (.c (.bool false)))⟩])] (.one .nil))
    (.seq
      (.ops [
          (none, [⟨none, some 5, .p (.mv (.s 0))⟩,
          ⟨none, some 6, .p (.mv (.s 1))⟩,
          ⟨none, some 7, .e (.call (.c (.func (.func 36) ⟨[]⟩ ⟨[]⟩)) [.s 5, .s 6])⟩,
          ⟨none, some 8, .p (.bin .geq (.s 7) (.c (.int .i64 0)))⟩,
          ⟨none, some 4, .p (.mv (.s 8))⟩])] (.one .nil))
      .ret))
theorem cfn18 : cfn Try.prog 18 = some ⟨9, 4, d18.erase, [(.s 4, none)]⟩ := by kernel_rfl
theorem ok18 : d18.ok 9 4 = true := by kernel_rfl
noncomputable def F18 (a0 a1 : Value) (H : Heap) (nx : Nat) (k : EP) : Prop :=
  wCall Try.prog 36 [a0, a1] H nx fun t7_1 H1 nx1 =>
  wBin .geq t7_1 (.int .i64 0) fun t8_2 =>
  forceV t8_2 fun tv_3 => k tv_3 H1 nx1
theorem eq18 (a0 a1 : Value) (H : Heap) (nx : Nat) (k : EP) : wBody Try.prog 9 4 d18 [(.s 4, none)] [a0, a1] H nx k = F18 a0 a1 H nx k := by kernel_rfl
theorem spec18 {a0 a1 : Value} {H : Heap} {nx : Nat} {k : EP} (h : F18 a0 a1 H nx k) : Ans Try.prog 18 [a0, a1] H nx k :=
  spec_of_body mixed namesOK cfn18 ok18 (by simp) ((eq18 a0 a1 H nx k).symm ▸ h)

/-! 5: ordinal/ordinallaw30.EliminationTrees -/
def d5 : D :=
  (.seq
    (.ops [
        (none, [⟨none, some 3, .a (.box (.s 0))⟩,
        ⟨none, some 6, .p (.mv (.c (.bool false)))⟩])] (.one .nil))
    (.seq
      (.join [26] [12, 13, 14, 15, 16, 17, 18, 19, 20, 21, 22, 23, 24, 25]
        (.ops [
            (none, [⟨none, some 12, .r (.ld (.s 3) (some 2))⟩,
            ⟨none, some 13, .e (.call (.c (.func (.func 17) ⟨[]⟩ ⟨[]⟩)) [.s 12])⟩,
            ⟨none, some 14, .p (.un .not (.s 13))⟩,
            ⟨none, some 15, .p (.mv (.s 14))⟩]),
            (some (15, false), [⟨none, some 16, .p (.mv (.s 2))⟩,
            ⟨none, some 17, .r (.len (.s 16) 0)⟩,
            ⟨none, some 18, .p (.bin .gtr (.s 17) (.c (.int .i64 10)))⟩]),
            (none, [⟨none, some 19, .p (.pick (.s 15) (.c (.bool true)) (.s 18))⟩,
            ⟨none, some 20, .p (.mv (.s 19))⟩]),
            (some (20, false), [⟨none, some 21, .r (.ld (.s 3) (some 2))⟩,
            ⟨none, some 22, .p (.mv (.s 1))⟩,
            ⟨none, some 23, .p (.mv (.s 2))⟩,
            ⟨none, some 24, .e (.call (.c (.func (.func 8) ⟨[]⟩ ⟨[]⟩)) [.s 21, .s 22, .s 23])⟩,
            ⟨none, some 25, .p (.bin .neq (.s 24) (.c (.int .i64 0)))⟩]),
            (none, [⟨none, some 26, .p (.pick (.s 20) (.c (.bool true)) (.s 25))⟩])] (.one (.tst (.one (.tst (.one .nil) (.one .nil))) (.one (.one (.one .nil))))))
        (.cond (.s 26)
          (.seq
            (.ops [
                (none, [⟨none, some 27, .e (.call (.c (.func (.func 7) ⟨[]⟩ ⟨[]⟩)) [])⟩,
                ⟨none, some 6, .p (.mv (.s 27))⟩])] (.one .nil))
            .ret)
          .skip))
      (.seq
        (.seq
          (.ops [
              (none, [⟨none, some 28, .p (.fld (.s 3) 1)⟩,
              ⟨none, some 29, .r (.ld (.s 28) none)⟩,
              ⟨none, some 30, .r (.len (.s 29) 0)⟩,
              ⟨none, some 31, .p (.mv (.c (.int .i64 0)))⟩])] (.one .nil))
          (.block 0
            (.loop [31] [6, 8, 32, 33, 34, 35, 36, 37, 38, 39, 40, 41, 42, 43]
              (.seq
                (.ops [
                    (none, [⟨none, some 32, .p (.bin .lss (.s 31) (.s 30))⟩])] (.one .nil))
                (.seq
                  (.cond (.s 32)
                    .skip
                    (.exit 0))
                  (.seq
                    (.block 1
                      (.seq
                        (.ops [
                            (none, [⟨none, some 33, .p (.idx (.s 29) (.s 31) none 1)⟩,
                            ⟨none, some 34, .r (.ld (.s 33) none)⟩,
                            ⟨none, some 8, .a (.alloc [.int .u32 0])⟩,
                            ⟨none, none, .e (.st (.s 8) (.s 34) 1)⟩])] (.one .nil))
                        (.join [42] [35, 36, 37, 38, 39, 40, 41]
                          (.ops [
                              (none, [⟨none, some 35, .r (.ld (.s 8) none)⟩,
                              ⟨none, some 36, .p (.bin .neq (.s 35) (.c (.int .u32 0)))⟩,
                              ⟨none, some 37, .p (.mv (.s 36))⟩]),
                              (some (37, true), [⟨none, some 38, .p (.mv (.s 2))⟩,
                              ⟨none, some 39, .p (.mkf (.func 19) [] [.s 8])⟩,
                              ⟨none, some 40, .e (.call (.c (.func (.func 18) ⟨[]⟩ ⟨[]⟩)) [.s 38, .s 39])⟩,
                              ⟨none, some 41, .p (.un .not (.s 40))⟩]),
                              (none, [⟨none, some 42, .p (.pick (.s 37) (.s 41) (.c (.bool false)))⟩])] (.one (.tst (.one .nil) (.one .nil))))
                          (.cond (.s 42)
                            (.seq
                              (.ops [
                                  (none, [⟨none, some 6, .p (.mv (.c (.bool false)))⟩])] (.one .nil))
                              .ret)
                            .skip))))
                    (.ops [
                        (none, [⟨none, some 43, .p (.bin .add (.s 31) (.c (.int .i64 1)))⟩,
                        ⟨none, some 31, .p (.mv (.s 43))⟩])] (.one .nil))))))))
        (.seq
          (.seq
            (.ops [
                (none, [⟨none, some 44, .p (.mv (.s 2))⟩,
                ⟨none, some 45, .r (.len (.s 44) 0)⟩,
                ⟨none, some 46, .p (.mv (.c (.int .i64 0)))⟩])] (.one .nil))
            (.block 2
              (.loop [46] [6, 9, 10, 11, 47, 48, 49, 50, 51, 52, 53, 54, 55, 56, 57, 58, 59, 60, 61, 62, 63, 64, 65, 66, 67, 68, 69, 70, 71, 72, 73, 74, 75, 76, 77, 78, 79, 80, 81, 82, 83, 84, 85, 86, 87, 88, 89, 90, 91, 92, 93, 94, 95, 96, 97, 98, 99, 100, 101, 102, 103, 104, 105, 106, 107]
                (.seq
                  (.ops [
                      (none, [⟨none, some 47, .p (.bin .lss (.s 46) (.s 45))⟩])] (.one .nil))
                  (.seq
                    (.cond (.s 47)
                      .skip
                      (.exit 2))
                    (.seq
                      (.block 3
                        (.seq
                          (.ops [
                              (none, [⟨none, some 48, .p (.mv (.s 46))⟩,
                              ⟨none, some 49, .p (.idx (.s 44) (.s 46) none 3)⟩,
                              ⟨none, some 50, .r (.ld (.s 49) (some 3))⟩,
                              ⟨none, some 10, .a (.alloc [.int .i64 0, .int .u32 0, .int .i64 0])⟩,
                              ⟨none, some 9, .p (.mv (.s 48))⟩,
                              ⟨none, none, .e (.st (.s 10) (.s 50) 3)⟩])] (.one .nil))
                          (.seq
                            (.join [72] [51, 52, 53, 54, 55, 56, 57, 58, 59, 60, 61, 62, 63, 64, 65, 66, 67, 68, 69, 70, 71]
                              (.ops [
                                  (none, [⟨none, some 51, .p (.fld (.s 10) 0)⟩,
                                  ⟨none, some 52, .r (.ld (.s 51) none)⟩,
                                  ⟨none, some 53, .p (.mv (.s 9))⟩,
                                  ⟨none, some 54, .p (.bin .neq (.s 52) (.s 53))⟩,
                                  ⟨none, some 55, .p (.mv (.s 54))⟩]),
                                  (some (55, false), [⟨none, some 56, .p (.mv (.s 9))⟩,
                                  ⟨none, some 57, .p (.mv (.s 1))⟩,
                                  ⟨none, some 58, .p (.bin .lss (.s 56) (.s 57))⟩,
                                  ⟨none, some 59, .p (.mv (.s 58))⟩]),
                                  (some (59, true), [⟨none, some 60, .p (.fld (.s 10) 2)⟩,
                                  ⟨none, some 61, .r (.ld (.s 60) none)⟩,
                                  ⟨none, some 62, .p (.mv (.s 9))⟩,
                                  ⟨none, some 63, .p (.bin .geq (.s 61) (.s 62))⟩,
                                  ⟨none, some 64, .p (.mv (.s 63))⟩]),
                                  (some (64, false), [⟨none, some 65, .p (.fld (.s 10) 1)⟩,
                                  ⟨none, some 66, .r (.ld (.s 65) none)⟩,
                                  ⟨none, some 67, .p (.mv (.s 9))⟩,
                                  ⟨none, some 68, .p (.bin .shr (.s 66) (.s 67))⟩,
                                  ⟨none, some 69, .p (.bin .neq (.s 68) (.c (.int .u32 0)))⟩]),
                                  (some (59, true), [⟨none, some 70, .p (.pick (.s 64) (.c (.bool true)) (.s 69))⟩]),
                                  (some (55, false), [⟨none, some 71, .p (.pick (.s 59) (.s 70) (.c (.bool false)))⟩]),
                                  (none, [⟨none, some 72, .p (.pick (.s 55) (.c (.bool true)) (.s 71))⟩])] (.one (.tst (.tst (.tst (.one (.one (.one .nil))) (.one (.one (.one .nil)))) (.one (.one (.one (.one .nil))))) (.one (.one (.one (.one (.one .nil))))))))
                              (.cond (.s 72)
                                (.seq
                                  (.ops [
                                      (none, [⟨none, some 6, .p (.mv (.c (.bool false)))⟩])] (.one .nil))
                                  .ret)
                                .skip))
                            (.seq
                              (.ops [
                                  (none, [⟨none, some 73, .p (.mv (.s 2))⟩,
                                  ⟨none, some 74, .r (.len (.s 73) 0)⟩,
                                  ⟨none, some 75, .p (.mv (.c (.int .i64 0)))⟩])] (.one .nil))
                              (.block 4
                                (.loop [75] [6, 11, 76, 77, 78, 79, 80, 81, 82, 83, 84, 85, 86, 87, 88, 89, 90, 91, 92, 93, 94, 95, 96, 97, 98, 99, 100, 101, 102, 103, 104, 105, 106]
                                  (.seq
                                    (.ops [
                                        (none, [⟨none, some 76, .p (.bin .lss (.s 75) (.s 74))⟩])] (.one .nil))
                                    (.seq
                                      (.cond (.s 76)
                                        .skip
                                        (.exit 4))
                                      (.seq
                                        (.block 5
                                          (.seq
                                            (.ops [
                                                (none, [⟨none, some 77, .p (.mv (.s 75))⟩,
                                                ⟨none, some 11, .p (.mv (.s 77))⟩])] (.one .nil))
                                            (.join [105] [78, 79, 80, 81, 82, 83, 84, 85, 86, 87, 88, 89, 90, 91, 92, 93, 94, 95, 96, 97, 98, 99, 100, 101, 102, 103, 104]
                                              (.ops [
                                                  (none, [⟨none, some 78, .r (.ld (.s 10) (some 3))⟩,
                                                  ⟨none, some 79, .e (.call (.c (.func (.func 20) ⟨[]⟩ ⟨[]⟩)) [.s 78])⟩,
                                                  ⟨none, some 80, .p (.mv (.s 11))⟩,
                                                  ⟨none, some 81, .p (.bin .shr (.s 79) (.s 80))⟩,
                                                  ⟨none, some 82, .p (.bin .and (.s 81) (.c (.int .u32 1)))⟩,
                                                  ⟨none, some 83, .p (.bin .eql (.s 82) (.c (.int .u32 1)))⟩,
                                                  ⟨none, some 84, .p (.mv (.s 83))⟩]),
                                                  (some (84, true), [⟨none, some 85, .p (.mv (.s 11))⟩,
                                                  ⟨none, some 86, .p (.mv (.s 9))⟩,
                                                  ⟨none, some 87, .p (.bin .neq (.s 85) (.s 86))⟩]),
                                                  (none, [⟨none, some 88, .p (.pick (.s 84) (.s 87) (.c (.bool false)))⟩,
                                                  ⟨none, some 89, .p (.mv (.s 88))⟩]),
                                                  (some (89, true), [⟨none, some 90, .p (.fld (.s 10) 2)⟩,
                                                  ⟨none, some 91, .r (.ld (.s 90) none)⟩,
                                                  ⟨none, some 92, .p (.bin .lss (.s 91) (.c (.int .i64 0)))⟩,
                                                  ⟨none, some 93, .p (.mv (.s 92))⟩]),
                                                  (some (93, false), [⟨none, some 94, .p (.mv (.s 2))⟩,
                                                  ⟨none, some 95, .p (.fld (.s 10) 2)⟩,
                                                  ⟨none, some 96, .r (.ld (.s 95) none)⟩,
                                                  ⟨none, some 97, .p (.idx (.s 94) (.s 96) none 3)⟩,
                                                  ⟨none, some 98, .r (.ld (.s 97) (some 3))⟩,
                                                  ⟨none, some 99, .e (.call (.c (.func (.func 20) ⟨[]⟩ ⟨[]⟩)) [.s 98])⟩,
                                                  ⟨none, some 100, .p (.mv (.s 11))⟩,
                                                  ⟨none, some 101, .p (.bin .shr (.s 99) (.s 100))⟩,
                                                  ⟨none, some 102, .p (.bin .and (.s 101) (.c (.int .u32 1)))⟩,
                                                  ⟨none, some 103, .p (.bin .eql (.s 102) (.c (.int .u32 0)))⟩]),
                                                  (some (89, true), [⟨none, some 104, .p (.pick (.s 93) (.c (.bool true)) (.s 103))⟩]),
                                                  (none, [⟨none, some 105, .p (.pick (.s 89) (.s 104) (.c (.bool false)))⟩])] (.one (.tst (.one (.tst (.tst (.one (.one .nil)) (.one (.one .nil))) (.one (.one (.one .nil))))) (.one (.one (.one (.one (.one .nil))))))))
                                              (.cond (.s 105)
                                                (.seq
                                                  (.ops [
                                                      (none, [⟨none, some 6, .p (.mv (.c (.bool false)))⟩])] (.one .nil))
                                                  .ret)
                                                .skip))))
                                        (.ops [
                                            (none, [⟨none, some 106, .p (.bin .add (.s 75) (.c (.int .i64 1)))⟩,
                                            ⟨none, some 75, .p (.mv (.s 106))⟩])] (.one .nil)))))))))))
                      (.ops [
                          (none, [⟨none, some 107, .p (.bin .add (.s 46) (.c (.int .i64 1)))⟩,
                          ⟨none, some 46, .p (.mv (.s 107))⟩])] (.one .nil))))))))
          (.seq
            (.ops [
                (none, [⟨none, some 108, .e (.call (.c (.func (.func 7) ⟨[]⟩ ⟨[]⟩)) [])⟩,
                ⟨none, some 6, .p (.mv (.s 108))⟩])] (.one .nil))
            .ret)))))
theorem cfn5 : cfn Try.prog 5 = some ⟨109, 7, d5.erase, [(.s 6, none)]⟩ := by kernel_rfl
theorem ok5 : d5.ok 109 7 = true := by kernel_rfl
noncomputable def F5 (a0 a1 a2 : Value) (H : Heap) (nx : Nat) (k : EP) : Prop :=
  dBox a0 fun tc_1 => wNew (.cells tc_1 0) .ptr H nx fun t3_2 H1 nx1 =>
  wJoin (fun tj_3 =>
    wLd t3_2 (some 2) H1 fun t12_5 =>
    wCall Try.prog 17 [t12_5] H1 nx1 fun t13_6 H3 nx3 =>
    wUn .not t13_6 fun t14_7 =>
    wGuard false t14_7 (
      wLen a2 0 H3 fun t17_8 =>
      wBin .gtr t17_8 (.int .i64 10) fun t18_9 =>
      wGuard false t18_9 (
        wLd t3_2 (some 2) H3 fun t21_10 =>
        wCall Try.prog 8 [t21_10, a1, a2] H3 nx3 fun t24_11 H4 nx4 =>
        wBin .neq t24_11 (.int .i64 0) fun t25_12 =>
        tj_3 [t25_12] H4 nx4) (
        tj_3 [(.bool true)] H3 nx3)) (
        tj_3 [(.bool true)] H3 nx3)) (fun tL_4 H2 nx2 =>
    wIf (tL_4.getD 0 undef) (
      wCall Try.prog 7 [] H2 nx2 fun t27_13 H5 nx5 =>
      forceV t27_13 fun tv_14 => k tv_14 H5 nx5) (
      wFld t3_2 1 fun t28_15 =>
      wLd t28_15 none H2 fun t29_16 =>
      wLen t29_16 0 H2 fun t30_17 =>
      wLoop (fun tih_18 tL_19 H6 nx6 =>
        wBin .lss (tL_19.getD 0 undef) t30_17 fun t32_20 =>
        wIf t32_20 (
          wIdx t29_16 (tL_19.getD 0 undef) none 1 fun t33_21 =>
          wLd t33_21 none H6 fun t34_22 =>
          wNew (.cells [.int .u32 0] 0) .ptr H6 nx6 fun t8_23 H7 nx7 =>
          wSt t8_23 t34_22 1 H7 fun H8 =>
          wJoin (fun tj_24 =>
            wLd t8_23 none H8 fun t35_26 =>
            wBin .neq t35_26 (.int .u32 0) fun t36_27 =>
            wGuard true t36_27 (
              wCall Try.prog 18 [a2, (.func (.func 19) ⟨[]⟩ ⟨[t8_23]⟩)] H8 nx7 fun t40_28 H10 nx10 =>
              wUn .not t40_28 fun t41_29 =>
              tj_24 [t41_29] H10 nx10) (
              tj_24 [(.bool false)] H8 nx7)) (fun tL_25 H9 nx9 =>
            wIf (tL_25.getD 0 undef) (
              forceV (.bool false) fun tv_30 => k tv_30 H9 nx9) (
              wBin .add (tL_19.getD 0 undef) (.int .i64 1) fun t43_31 =>
              tih_18 [t43_31] H9 nx9))) (
          wLen a2 0 H6 fun t45_32 =>
          wLoop (fun tih_33 tL_34 H11 nx11 =>
            wBin .lss (tL_34.getD 0 undef) t45_32 fun t47_35 =>
            wIf t47_35 (
              wIdx a2 (tL_34.getD 0 undef) none 3 fun t49_36 =>
              wLd t49_36 (some 3) H11 fun t50_37 =>
              wNew (.cells [.int .i64 0, .int .u32 0, .int .i64 0] 0) .ptr H11 nx11 fun t10_38 H12 nx12 =>
              wSt t10_38 t50_37 3 H12 fun H13 =>
              wJoin (fun tj_39 =>
                wFld t10_38 0 fun t51_41 =>
                wLd t51_41 none H13 fun t52_42 =>
                wBin .neq t52_42 (tL_34.getD 0 undef) fun t54_43 =>
                wGuard false t54_43 (
                  wBin .lss (tL_34.getD 0 undef) a1 fun t58_44 =>
                  wGuard true t58_44 (
                    wFld t10_38 2 fun t60_45 =>
                    wLd t60_45 none H13 fun t61_46 =>
                    wBin .geq t61_46 (tL_34.getD 0 undef) fun t63_47 =>
                    wGuard false t63_47 (
                      wFld t10_38 1 fun t65_48 =>
                      wLd t65_48 none H13 fun t66_49 =>
                      wBin .shr t66_49 (tL_34.getD 0 undef) fun t68_50 =>
                      wBin .neq t68_50 (.int .u32 0) fun t69_51 =>
                          tj_39 [t69_51] H13 nx12) (
                          tj_39 [(.bool true)] H13 nx12)) (
                          tj_39 [(.bool false)] H13 nx12)) (
                          tj_39 [(.bool true)] H13 nx12)) (fun tL_40 H14 nx14 =>
                wIf (tL_40.getD 0 undef) (
                  forceV (.bool false) fun tv_52 => k tv_52 H14 nx14) (
                  wLen a2 0 H14 fun t74_53 =>
                  wLoop (fun tih_54 tL_55 H15 nx15 =>
                    wBin .lss (tL_55.getD 0 undef) t74_53 fun t76_56 =>
                    wIf t76_56 (
                      wJoin (fun tj_57 =>
                        wLd t10_38 (some 3) H15 fun t78_59 =>
                        wCall Try.prog 20 [t78_59] H15 nx15 fun t79_60 H17 nx17 =>
                        wBin .shr t79_60 (tL_55.getD 0 undef) fun t81_61 =>
                        wBin .and t81_61 (.int .u32 1) fun t82_62 =>
                        wBin .eql t82_62 (.int .u32 1) fun t83_63 =>
                        wGuard true t83_63 (
                          wBin .neq (tL_55.getD 0 undef) (tL_34.getD 0 undef) fun t87_64 =>
                          wGuard true t87_64 (
                            wFld t10_38 2 fun t90_65 =>
                            wLd t90_65 none H17 fun t91_66 =>
                            wBin .lss t91_66 (.int .i64 0) fun t92_67 =>
                            wGuard false t92_67 (
                              wFld t10_38 2 fun t95_68 =>
                              wLd t95_68 none H17 fun t96_69 =>
                              wIdx a2 t96_69 none 3 fun t97_70 =>
                              wLd t97_70 (some 3) H17 fun t98_71 =>
                              wCall Try.prog 20 [t98_71] H17 nx17 fun t99_72 H18 nx18 =>
                              wBin .shr t99_72 (tL_55.getD 0 undef) fun t101_73 =>
                              wBin .and t101_73 (.int .u32 1) fun t102_74 =>
                              wBin .eql t102_74 (.int .u32 0) fun t103_75 =>
                                tj_57 [t103_75] H18 nx18) (
                                tj_57 [(.bool true)] H17 nx17)) (
                                tj_57 [(.bool false)] H17 nx17)) (
                                tj_57 [(.bool false)] H17 nx17)) (fun tL_58 H16 nx16 =>
                        wIf (tL_58.getD 0 undef) (
                          forceV (.bool false) fun tv_76 => k tv_76 H16 nx16) (
                          wBin .add (tL_55.getD 0 undef) (.int .i64 1) fun t106_77 =>
                          tih_54 [t106_77] H16 nx16))) (
                      wBin .add (tL_34.getD 0 undef) (.int .i64 1) fun t107_78 =>
                      tih_33 [t107_78] H15 nx15)) [(.int .i64 0)] H14 nx14))) (
              wCall Try.prog 7 [] H11 nx11 fun t108_79 H19 nx19 =>
              forceV t108_79 fun tv_80 => k tv_80 H19 nx19)) [(.int .i64 0)] H6 nx6)) [(.int .i64 0)] H2 nx2))
theorem eq5 (a0 a1 a2 : Value) (H : Heap) (nx : Nat) (k : EP) : wBody Try.prog 109 7 d5 [(.s 6, none)] [a0, a1, a2] H nx k = F5 a0 a1 a2 H nx k := by kernel_rfl
theorem spec5 {a0 a1 a2 : Value} {H : Heap} {nx : Nat} {k : EP} (h : F5 a0 a1 a2 H nx k) : Ans Try.prog 5 [a0, a1, a2] H nx k :=
  spec_of_body mixed namesOK cfn5 ok5 (by simp) ((eq5 a0 a1 a2 H nx k).symm ▸ h)

end Go.Proofs.Ytaieijjfabbfeaa

set_option linter.unusedSimpArgs false
set_option linter.unusedVariables false
set_option linter.unusedSectionVars false
namespace Go.Proofs.Ytaieijjfabbfeaa
open Go.Clo

theorem wCallV_rule {P : Program} {g : FuncId} {first cap args : List Value} {H : Heap} {nx : Nat} {k : EP} {Q : EP} (h : Ans P g (first ++ args ++ cap) H nx Q) (hk : ∀ v H' nx', Q v H' nx' → k v H' nx') :
    wCallV P (.func (.func g) ⟨first⟩ ⟨cap⟩) args H nx k := by
  show spine (first ++ args ++ cap) (fun vs => callP P g vs H nx False k)
  rw [spine_eq]
  exact .inr (h.mono hk)

theorem putL_lit1 (a x : Value) : putL [a] 0 [x] = [x] := rfl

theorem few17 (N : Int) (A : Option Addr) (es : List Nat) (cap : Nat) (H : Heap) (nx : Nat) (hS : Sl H nx A (u32s es)) (hsm : Small es) :
    Ans Try.prog 17 [gv N A es.length cap] H nx fun v H' nx' => (∃ c : Bool, v = .bool c ∧ (c = true → 0 ≤ N ∧ N ≤ 6 ∧ es.length ≤ 8 ∧ gcode N es = 0)) ∧ Ext H nx H' nx' := by
  refine spec17 ?_
  unfold F17
  have hE : Ext H nx (hs H nx (some (.cells [.int .i64 N, .slice A es.length cap] 0))) (nx + 1) := (Ext.refl H nx).new _ (Nat.le_refl _) (by omega)
  simp (disch := first | omega | assumption | exact shr_lt (by assumption) | exact ndiff32 (by assumption) | exact below_lt (by omega) | fail) only [wBin_leq, wBin_geq, wGuard_true, wFld_eq, wLen_slice, wNew_eq, dBox_agg, oneCells, wLd_none, wLd_2, ldP_cells, cellP_one, getH_same, forceV_eq, Option.elim_some, List.getElem?_cons_zero, List.getElem?_cons_succ, Yld.val, if_true, Nat.zero_add, Nat.add_zero]
  by_cases h1 : N ≥ 0
  case neg => 
    simp (disch := first | omega | assumption | exact shr_lt (by assumption) | exact ndiff32 (by assumption) | exact below_lt (by omega) | fail) only [decide_false, if_false, Bool.false_eq_true, h1]
    exact ⟨⟨false, rfl, fun h => by cases h⟩, hE⟩
  by_cases h2 : N ≤ 6
  case neg => 
    simp (disch := first | omega | assumption | exact shr_lt (by assumption) | exact ndiff32 (by assumption) | exact below_lt (by omega) | fail) only [decide_true, decide_false, if_true, if_false, Bool.false_eq_true, true_and, h1, h2]
    exact ⟨⟨false, rfl, fun h => by cases h⟩, hE⟩
  by_cases h3 : (es.length : Int) ≤ 8
  case neg => 
    simp (disch := first | omega | assumption | exact shr_lt (by assumption) | exact ndiff32 (by assumption) | exact below_lt (by omega) | fail) only [decide_true, decide_false, if_true, if_false, Bool.false_eq_true, true_and, h1, h2, h3]
    exact ⟨⟨false, rfl, fun h => by cases h⟩, hE⟩
  simp (disch := first | omega | assumption | exact shr_lt (by assumption) | exact ndiff32 (by assumption) | exact below_lt (by omega) | fail) only [decide_true, if_true, true_and, h1, h2, h3, cellP_lit2]
  refine wCall_rule (of10 N A es.length cap _ _) ?_
  rintro _ H2 nx2 ⟨rfl, hE2⟩
  refine wCall_rule (check9 N A es cap _ _ (hS.ext (hE.trans hE2)) hsm) ?_
  rintro _ H3 nx3 ⟨rfl, hE3⟩
  simp (disch := first | omega | assumption | exact shr_lt (by assumption) | exact ndiff32 (by assumption) | exact below_lt (by omega) | fail) only [wBin_eql]
  exact ⟨⟨_, rfl, fun h => ⟨by omega, by simpa using h⟩⟩, (hE.trans hE2).trans hE3⟩

theorem in19 {b : Bag} {e q : Nat} (hk : b.key < 4294967296) (he : e < 4294967296) {H : Heap} {nx : Nat} (hq : q < nx) (hg : getH H q = some (.cells [.int .u32 (e : Int)] 0)) :
    Ans Try.prog 19 [bagV b, .pointer (some ⟨q, 0, none⟩)] H nx fun v H' nx' => v = .bool (decide (ndiff e (setOf b) = 0)) ∧ Ext H nx H' nx' := by
  refine spec19 ?_
  unfold F19
  have hE : Ext H nx (hs H nx (some (.cells [.int .i64 b.var, .int .u32 (b.key : Int), .int .i64 b.par] 0))) (nx + 1) := (Ext.refl H nx).new _ (Nat.le_refl _) (by omega)
  have hq0 := hE.get q hq
  rw [hg] at hq0
  simp only [bagV, bagC]
  simp (disch := first | omega | assumption | exact shr_lt (by assumption) | exact ndiff32 (by assumption) | exact below_lt (by omega) | fail) only [wNew_eq, dBox_agg, oneCells, wLd_none, wLd_3, ldP_cells, cellP_one, getH_same, getH_ne, forceV_eq, forceN_eq, Option.elim_some, List.getElem?_cons_zero, Yld.val, if_true, and_true, true_and, or_false, hg, cellP_lit3]
  refine wCall_rule (set20 (b := b) hk _ _) ?_
  rintro _ H2 nx2 ⟨rfl, hE2⟩
  have hE02 := (Ext.self (by omega) : Ext _ (nx + 1) _ (nx + 1 + 6)).trans hE2
  have hq2 := (hE02.get q (by omega)).trans hq0
  have hs := setOf_lt hk
  simp (disch := first | omega | assumption | exact shr_lt (by assumption) | exact ndiff32 (by assumption) | exact below_lt (by omega) | fail) only [wBin_eql, ldP_cells, cellP_one, Option.elim_some, List.getElem?_cons_zero, true_and, wBin_andNot32, u32_eq_zero, hq2]
  exact hE.trans hE02

theorem index36 {p : Bag → Bool} {f : Value} (B : Option Addr) (bs : List Bag) (cap : Nat) (H : Heap) (nx : Nat) (hB : Sl H nx B (bagsC bs)) (hl : bs.length ≤ 40)
    (hf : ∀ b ∈ bs, ∀ (H1 : Heap) (n1 : Nat) (k : EP), Ext H nx H1 n1 → (∀ H2 n2, Ext H1 n1 H2 n2 → k (.bool (p b)) H2 n2) → wCallV Try.prog f [bagV b] H1 n1 k) :
    Ans Try.prog 36 [.slice B bs.length cap, f] H nx fun v H' nx' => (∃ i : Int, v = .int .i64 i ∧ (0 ≤ i ↔ ∃ b ∈ bs, p b = true)) ∧ Ext H nx H' nx' := by
  refine spec36 ?_
  unfold F36
  simp (disch := first | omega | assumption | exact shr_lt (by assumption) | exact ndiff32 (by assumption) | exact below_lt (by omega) | fail) only [wLen_slice, forceV_eq]
  refine wLoop_rule (m := bs.length) (fun m L H' nx' => ∃ i : Nat, m + i = bs.length ∧ L = [.int .i64 (i : Int)] ∧ (∀ (j : Nat) (b : Bag), j < i → bs[j]? = some b → p b = false) ∧ Ext H nx H' nx') ?_ ⟨0, rfl, rfl, fun j b h => by omega, Ext.refl _ _⟩
  rintro m ih L H1 nx1 ⟨i, hm, rfl, hst, hE1⟩ hih
  simp (disch := first | omega | assumption | exact shr_lt (by assumption) | exact ndiff32 (by assumption) | exact below_lt (by omega) | fail) only [List.getD_cons_zero, wBin_lss, wIf_bool, wBin_add64]
  by_cases hi : i < bs.length
  · have hi' : (i : Int) < (bs.length : Int) := by omega
    obtain ⟨b, hb⟩ : ∃ b, bs[i]? = some b := ⟨_, List.getElem?_eq_getElem hi⟩
    obtain ⟨B, o, row, rfl, hBn, hrow, hget⟩ := (hB.ext hE1).open (i := i * 3) (by rw [bagsC_length]; omega)
    have hgg := fun j v hv => hget _ v (bagsC_get hb j v hv)
    have g0 : row[o + i * 3]? = some (.int .i64 b.var) := hgg 0 _ rfl
    have g1 : row[o + i * 3 + 1]? = some (.int .u32 (b.key : Int)) := hgg 1 _ rfl
    have g2 : row[o + i * 3 + 2]? = some (.int .i64 b.par) := hgg 2 _ rfl
    simp (disch := first | omega | assumption | exact shr_lt (by assumption) | exact ndiff32 (by assumption) | exact below_lt (by omega) | fail) only [wLd_3, decide_true, if_true, wIdx_slice, Int.toNat_natCast, hi', ldP_row hrow, cellP_3 g0 g1 g2]
    refine hf b (List.mem_of_getElem? hb) _ _ _ hE1 fun H2 nx2 hE2 => ?_
    cases hp : p b with
    | true =>
      simp (disch := first | omega | assumption | exact shr_lt (by assumption) | exact ndiff32 (by assumption) | exact below_lt (by omega) | fail) only [wIf_bool, if_true]
      exact ⟨⟨i, rfl, fun _ => ⟨b, List.mem_of_getElem? hb, hp⟩, fun _ => by omega⟩, hE1.trans hE2⟩
    | false =>
      simp (disch := first | omega | assumption | exact shr_lt (by assumption) | exact ndiff32 (by assumption) | exact below_lt (by omega) | fail) only [wIf_bool, if_false, Bool.false_eq_true]
      refine hih (m - 1) _ _ _ (by omega) ⟨i + 1, by omega, by simp, fun j b' hj hb' => ?_, hE1.trans hE2⟩
      by_cases hji : j = i
      · subst hji; rw [hb] at hb'; cases hb'; exact hp
      · exact hst j b' (by omega) hb'
  · have hi' : ¬ (i : Int) < (bs.length : Int) := by omega
    simp (disch := first | omega | assumption | exact shr_lt (by assumption) | exact ndiff32 (by assumption) | exact below_lt (by omega) | fail) only [decide_false, if_false, Bool.false_eq_true, hi']
    refine ⟨⟨-1, rfl, fun h => by omega, ?_⟩, hE1⟩
    rintro ⟨b, hb, hp⟩
    obtain ⟨j, hj, rfl⟩ := List.getElem_of_mem hb
    rw [hst j _ (by omega) (List.getElem?_eq_getElem hj)] at hp; cases hp
theorem contains18 {p : Bag → Bool} {f : Value} (B : Option Addr) (bs : List Bag) (cap : Nat) (H : Heap) (nx : Nat) (hB : Sl H nx B (bagsC bs)) (hl : bs.length ≤ 40)
    (hf : ∀ b ∈ bs, ∀ (H1 : Heap) (n1 : Nat) (k : EP), Ext H nx H1 n1 → (∀ H2 n2, Ext H1 n1 H2 n2 → k (.bool (p b)) H2 n2) → wCallV Try.prog f [bagV b] H1 n1 k) :
    Ans Try.prog 18 [.slice B bs.length cap, f] H nx fun v H' nx' => (∃ c : Bool, v = .bool c ∧ (c = true ↔ ∃ b ∈ bs, p b = true)) ∧ Ext H nx H' nx' := by
  refine spec18 ?_
  unfold F18
  refine wCall_rule (index36 B bs cap H nx hB hl hf) ?_
  rintro _ H1 nx1 ⟨⟨i, rfl, hi⟩, hE⟩
  simp (disch := first | omega | assumption | exact shr_lt (by assumption) | exact ndiff32 (by assumption) | exact below_lt (by omega) | fail) only [wBin_geq, forceV_eq]
  exact ⟨⟨_, rfl, by rw [← hi, decide_eq_true_eq]⟩, hE⟩
end Go.Proofs.Ytaieijjfabbfeaa

set_option linter.unusedSimpArgs false
set_option linter.unusedVariables false
set_option linter.unusedSectionVars false
namespace Go.Proofs.Ytaieijjfabbfeaa
open Go.Clo

/-- What the accepted bags are. -/
theorem chk_zero {N free : Int} {es : List Nat} {bs : List Bag} (h : chk N free es bs = 0) : ∃ n f : Nat, N = n ∧ free = f ∧ n ≤ 32 ∧ bs.length = n ∧ (∀ (v : Nat) (b : Bag), bs[v]? = some b → bcode n f v b = 0) ∧ (∀ b ∈ bs, fits1 bs b) ∧ ∀ e ∈ es, covers bs e := by
  unfold chk at h
  split at h
  · rename_i h1; exact absurd h h1
  · rename_i h1
    obtain ⟨n, f, rfl, rfl, hn, _, _, _⟩ := fcode_inv (Decidable.of_not_not h1)
    simp only [Int.toNat_natCast] at h
    unfold ccode at h
    split at h
    · cases h
    · rename_i h2
      split at h
      · rename_i h3; exact absurd h h3
      · rename_i h3
        split at h
        · cases h
        · split at h
          · cases h
          · rename_i h5
            split at h
            · cases h
            · rename_i h6
              refine ⟨n, f, rfl, rfl, hn, Decidable.of_not_not h2, fun v b hb => badAt_zero (Decidable.of_not_not h3) v b hb, fun b hb => ?_, fun e he => ?_⟩
              · exact Classical.byContradiction fun g => h5 ⟨b, hb, g⟩
              · exact Classical.byContradiction fun g => h6 ⟨e, he, g⟩

theorem law5 (N free : Int) (A : Option Addr) (es : List Nat) (cap : Nat) (B : Option Addr) (bs : List Bag) (capB : Nat) (H : Heap) (nx : Nat) (hS : Sl H nx A (u32s es)) (hsm : Small es) (hB : Sl H nx B (bagsC bs)) (hkey : KeyOK bs) :
    Ans Try.prog 5 [gv N A es.length cap, .int .i64 free, .slice B bs.length capB] H nx fun r _ _ => r = .bool true := by
  refine spec5 ?_
  unfold F5
  have hE1 : Ext H nx (hs H nx (some (.cells [.int .i64 N, .slice A es.length cap] 0))) (nx + 1) := (Ext.refl H nx).new _ (Nat.le_refl _) (by omega)
  simp (disch := first | omega | assumption | exact shr_lt (by assumption) | exact ndiff32 (by assumption) | exact below_lt (by omega) | fail) only [wBin_gtr, wGuard_false, wFld_eq, wLen_slice, wNew_eq, dBox_agg, oneCells, wLd_none, wLd_2, wLd_3, ldP_cells, getH_same, forceV_eq, Yld.val, if_true, Nat.zero_add, Nat.add_zero, cellP_lit2]
  rw [wJoin_eq]
  refine wCall_rule (few17 N A es cap _ _ (hS.ext hE1) hsm) ?_
  rintro _ H2 nx2 ⟨⟨c, rfl, hc⟩, hE2⟩
  have hg2 := hE2.get nx (by omega)
  rw [getH_same] at hg2
  have hnx2 := hE2.le
  have hEE2 := hE1.trans hE2
  cases c with
  | false =>
    simp (disch := first | omega | assumption | exact shr_lt (by assumption) | exact ndiff32 (by assumption) | exact below_lt (by omega) | fail) only [List.getD_cons_zero, wIf_bool, wGuard_false, wUn_not, if_true, Bool.not_false]
    refine wCall_rule (awake7 _ _) ?_
    rintro _ _ _ ⟨rfl, rfl, rfl⟩
    simp (disch := first | omega | assumption | exact shr_lt (by assumption) | exact ndiff32 (by assumption) | exact below_lt (by omega) | fail) only []
  | true =>
    obtain ⟨hN0, hN6, hes, hgc⟩ := hc rfl
    by_cases hbig : (bs.length : Int) > 10
    · simp (disch := first | omega | assumption | exact shr_lt (by assumption) | exact ndiff32 (by assumption) | exact below_lt (by omega) | fail) only [List.getD_cons_zero, wIf_bool, wGuard_false, wUn_not, decide_true, if_true, if_false, Bool.false_eq_true, Bool.not_true, hbig]
      refine wCall_rule (awake7 _ _) ?_
      rintro _ _ _ ⟨rfl, rfl, rfl⟩
      simp (disch := first | omega | assumption | exact shr_lt (by assumption) | exact ndiff32 (by assumption) | exact below_lt (by omega) | fail) only []
    simp (disch := first | omega | assumption | exact shr_lt (by assumption) | exact ndiff32 (by assumption) | exact below_lt (by omega) | fail) only [List.getD_cons_zero, wIf_bool, wGuard_false, wUn_not, wLen_slice, ldP_cells, cellP_one, Option.elim_some, List.getElem?_cons_zero, List.getElem?_cons_succ, decide_false, if_true, if_false, Bool.false_eq_true, Bool.not_true, hbig, hg2, cellP_lit2]
    refine wCall_rule (check8 N free A es cap B bs capB _ _ (hS.ext hEE2) hsm (hB.ext hEE2) hkey) ?_
    rintro _ H3 nx3 ⟨rfl, hE3⟩
    have hg3 := (hE3.get nx (by omega)).trans hg2
    have hnx3 := hE3.le
    have hEE3 := hEE2.trans hE3
    by_cases hchk : chk N free es bs = 0
    case neg =>
      have d1 : decide (chk N free es bs ≠ 0) = true := by simp [hchk]
      simp (disch := first | omega | assumption | exact shr_lt (by assumption) | exact ndiff32 (by assumption) | exact below_lt (by omega) | fail) only [wBin_neq, wIf_bool, if_true, d1]
      refine wCall_rule (awake7 _ _) ?_
      rintro _ _ _ ⟨rfl, rfl, rfl⟩
      simp (disch := first | omega | assumption | exact shr_lt (by assumption) | exact ndiff32 (by assumption) | exact below_lt (by omega) | fail) only []
    have d1 : decide (chk N free es bs ≠ 0) = false := by simp [hchk]
    obtain ⟨n, f, rfl, rfl, hn, hlen, hbag, hfit, hcov⟩ := chk_zero hchk
    simp (disch := first | omega | assumption | exact shr_lt (by assumption) | exact ndiff32 (by assumption) | exact below_lt (by omega) | fail) only [wBin_neq, wIf_bool, wLen_slice, ldP_cells, cellP_one, Option.elim_some, List.getElem?_cons_zero, List.getElem?_cons_succ, if_false, Bool.false_eq_true, d1, hg3]
    -- every edge is in a bag
    refine wLoop_rule (m := es.length) (fun m L H' nx' => ∃ i : Nat, m + i = es.length ∧ L = [.int .i64 (i : Int)] ∧ Ext H3 nx3 H' nx') ?_ ⟨0, rfl, rfl, Ext.refl _ _⟩
    rintro m ih L H4 nx4 ⟨i, hm, rfl, hE4⟩ hih
    have hg4 := (hE4.get nx (by omega)).trans hg3
    have hnx4 := hE4.le
    have hEE4 := hEE3.trans hE4
    simp (disch := first | omega | assumption | exact shr_lt (by assumption) | exact ndiff32 (by assumption) | exact below_lt (by omega) | fail) only [List.getD_cons_zero, wBin_lss, wIf_bool, wBin_add64]
    by_cases hi : i < es.length
    · have hi' : (i : Int) < (es.length : Int) := by omega
      obtain ⟨e, he⟩ : ∃ e, es[i]? = some e := ⟨_, List.getElem?_eq_getElem hi⟩
      obtain ⟨A, oA, rowA, rfl, hAn, hrowA, hgetA⟩ := (hS.ext hEE4).open (i := i) (by rw [u32s_length]; omega)
      have he32 := hsm.get he
      simp (disch := first | omega | assumption | exact shr_lt (by assumption) | exact ndiff32 (by assumption) | exact below_lt (by omega) | fail) only [List.getD_cons_zero, wBin_neq, wIf_bool, wGuard_true, wLd_none, ldP_cells, cellP_one, getH_same, Option.elim_some, List.getElem?_cons_zero, decide_true, if_true, if_false, Bool.false_eq_true, Nat.zero_add, true_and, wIdx_slice, Int.toNat_natCast, Nat.mul_one, wSt_int, stP_cells, u32_ne_zero, List.length_cons, List.length_nil, Nat.le_refl, hi', ldP_row hrowA, hgetA _ _ (u32s_get he), putL_lit1, wJoin_eq]
      have hE5 : Ext H4 nx4 (hs (hs H4 nx4 (some (.cells [.int .u32 0] 0))) nx4 (some (.cells [.int .u32 (e : Int)] 0))) (nx4 + 1) := ((Ext.refl H4 nx4).new _ (Nat.le_refl _) (by omega)).hs (Nat.le_refl _)
      by_cases he0 : e = 0
      · have d2 : decide (e ≠ 0) = false := by simp [he0]
        simp (disch := first | omega | assumption | exact shr_lt (by assumption) | exact ndiff32 (by assumption) | exact below_lt (by omega) | fail) only [if_false, Bool.false_eq_true, d2]
        exact hih (m - 1) _ _ _ (by omega) ⟨i + 1, by omega, by simp, hE4.trans hE5⟩
      have d2 : decide (e ≠ 0) = true := by simp [he0]
      simp (disch := first | omega | assumption | exact shr_lt (by assumption) | exact ndiff32 (by assumption) | exact below_lt (by omega) | fail) only [if_true, d2]
      refine wCall_rule (contains18 (p := fun b => decide (ndiff e (setOf b) = 0)) B bs capB _ _ (hB.ext (hEE4.trans hE5)) (by omega) fun b hb H1 n1 k hE hk => ?_) ?_
      · refine wCallV_rule (in19 (b := b) (e := e) (q := nx4) (hkey b hb) he32 (by have := hE.le; omega) (by rw [hE.get nx4 (by omega), getH_same])) ?_
        rintro _ H2 nx2 ⟨rfl, hE2⟩
        exact hk _ _ hE2
      · rintro _ H6 nx6 ⟨⟨c, rfl, hc⟩, hE6⟩
        have hct : c = true := by
          rw [hc]
          rcases hcov e (List.mem_of_getElem? he) with h | ⟨b, hb, h⟩
          · exact absurd h he0
          · exact ⟨b, hb, by simpa using ndiff_zero.2 h⟩
        subst hct
        simp (disch := first | omega | assumption | exact shr_lt (by assumption) | exact ndiff32 (by assumption) | exact below_lt (by omega) | fail) only [wIf_bool, wUn_not, if_false, Bool.false_eq_true, Bool.not_true]
        exact hih (m - 1) _ _ _ (by omega) ⟨i + 1, by omega, by simp, (hE4.trans hE5).trans hE6⟩
    have hi' : ¬ (i : Int) < (es.length : Int) := by omega
    simp (disch := first | omega | assumption | exact shr_lt (by assumption) | exact ndiff32 (by assumption) | exact below_lt (by omega) | fail) only [decide_false, if_false, Bool.false_eq_true, hi']
    clear hih
    -- the bags
    refine wLoop_rule (m := n) (fun m L H' nx' => ∃ i : Nat, m + i = n ∧ L = [.int .i64 (i : Int)] ∧ Ext H4 nx4 H' nx') ?_ ⟨0, rfl, rfl, Ext.refl _ _⟩
    rintro m5 ih5 L5 H5 nx5 ⟨v, hm5, rfl, hE5⟩ hih5
    have hnx5 := hE5.le
    have hEE5 := hEE4.trans hE5
    simp (disch := first | omega | assumption | exact shr_lt (by assumption) | exact ndiff32 (by assumption) | exact below_lt (by omega) | fail) only [List.getD_cons_zero, wBin_lss, wIf_bool, wGuard_true, wBin_add64]
    by_cases hv : v < n
    case neg =>
      have hv' : ¬ (v : Int) < (bs.length : Int) := by omega
      simp (disch := first | omega | assumption | exact shr_lt (by assumption) | exact ndiff32 (by assumption) | exact below_lt (by omega) | fail) only [decide_false, if_false, Bool.false_eq_true, hv']
      refine wCall_rule (awake7 _ _) ?_
      rintro _ _ _ ⟨rfl, rfl, rfl⟩
      simp (disch := first | omega | assumption | exact shr_lt (by assumption) | exact ndiff32 (by assumption) | exact below_lt (by omega) | fail) only []
    have hv' : (v : Int) < (bs.length : Int) := by omega
    obtain ⟨b, hb⟩ : ∃ b, bs[v]? = some b := ⟨_, List.getElem?_eq_getElem (by omega)⟩
    obtain ⟨hvar, hself, hkn, hfree, hpar⟩ := bcode_zero (hbag v b hb)
    have hk := hkey.get hb
    obtain ⟨B, o, row, rfl, hBn, hrow, hget⟩ := (hB.ext hEE5).open (i := v * 3) (by rw [bagsC_length]; omega)
    have hgg := fun j v hv => hget _ v (bagsC_get hb j v hv)
    have g0 : row[o + v * 3]? = some (.int .i64 b.var) := hgg 0 _ rfl
    have g1 : row[o + v * 3 + 1]? = some (.int .u32 (b.key : Int)) := hgg 1 _ rfl
    have g2 : row[o + v * 3 + 2]? = some (.int .i64 b.par) := hgg 2 _ rfl
    have d3 : decide (b.var ≠ (v : Int)) = false := by simp [hvar]
    have hE6 : Ext H5 nx5 (hs (hs H5 nx5 (some (.cells [.int .i64 0, .int .u32 0, .int .i64 0] 0))) nx5 (some (.cells [.int .i64 b.var, .int .u32 (b.key : Int), .int .i64 b.par] 0))) (nx5 + 1) := ((Ext.refl H5 nx5).new _ (Nat.le_refl _) (by omega)).hs (Nat.le_refl _)
    generalize hH6 : hs (hs H5 nx5 (some (.cells [.int .i64 0, .int .u32 0, .int .i64 0] 0))) nx5 (some (.cells [.int .i64 b.var, .int .u32 (b.key : Int), .int .i64 b.par] 0)) = H6 at hE6
    have hg6 : getH H6 nx5 = some (.cells [.int .i64 b.var, .int .u32 (b.key : Int), .int .i64 b.par] 0) := by rw [← hH6, getH_same]
    simp (disch := first | omega | assumption | exact shr_lt (by assumption) | exact ndiff32 (by assumption) | exact below_lt (by omega) | fail) only [wBin_geq, wBin_neq, wGuard_false, oneCells, wLd_3, ldP_cells, cellP_one, getH_same, Option.elim_some, List.getElem?_cons_zero, List.getElem?_cons_succ, decide_true, if_true, Nat.zero_add, true_and, and_self, wIdx_slice, Int.toNat_natCast, wSt_agg, stP_cells, wBin_shr32, u32_ne_zero, List.length_cons, List.length_nil, Nat.le_refl, Nat.reduceAdd, hv', ldP_row hrow, cellP_3 g0 g1 g2, putL_lit3]
    rw [hH6]
    refine wJoin_rule (fun L H' nx' => L = [.bool false] ∧ H6 = H' ∧ nx5 + 1 = nx') ?_ ?_
    · intro j hj
      by_cases hvf : (v : Int) < (f : Int)
      · have hlt : b.key < 2 ^ v := by
          rcases Nat.lt_or_ge b.key (2 ^ v) with h | h
          · exact h
          · exact absurd ⟨by omega, h⟩ hfree
        have hp : ¬ b.par ≥ (v : Int) := by
          rcases hpar with ⟨_, h⟩ | ⟨_, h0, _, hb2⟩
          · omega
          · intro hge
            have := Nat.testBit_lt_two_pow (x := b.key) (i := b.par.toNat) (Nat.lt_of_lt_of_le hlt (Nat.pow_le_pow_right (by omega) (by omega)))
            rw [this] at hb2; cases hb2
        have hz : decide (b.key >>> v ≠ 0) = false := by
          have : b.key >>> v = 0 := by rw [Nat.shiftRight_eq_div_pow]; exact Nat.div_eq_of_lt hlt
          simp [this]
        simp (disch := first | omega | assumption | exact shr_lt (by assumption) | exact ndiff32 (by assumption) | exact below_lt (by omega) | fail) only [decide_true, decide_false, if_true, if_false, Bool.false_eq_true, d3, hvf, hp, hz]
        exact hj _ _ _ ⟨rfl, rfl, rfl⟩
      · simp (disch := first | omega | assumption | exact shr_lt (by assumption) | exact ndiff32 (by assumption) | exact below_lt (by omega) | fail) only [decide_false, if_false, Bool.false_eq_true, d3, hvf]
        exact hj _ _ _ ⟨rfl, rfl, rfl⟩
    rintro _ _ _ ⟨rfl, rfl, rfl⟩
    simp (disch := first | omega | assumption | exact shr_lt (by assumption) | exact ndiff32 (by assumption) | exact below_lt (by omega) | fail) only [List.getD_cons_zero, wIf_bool, if_false, Bool.false_eq_true]
    refine wLoop_rule (m := n) (fun m L H' nx' => ∃ i : Nat, m + i = n ∧ L = [.int .i64 (i : Int)] ∧ Ext H6 (nx5 + 1) H' nx') ?_ ⟨0, rfl, rfl, Ext.refl _ _⟩
    rintro m7 ih7 L7 H7 nx7 ⟨w, hm7, rfl, hE7⟩ hih7
    have hnx7 := hE7.le
    have hg7 := (hE7.get nx5 (by omega)).trans hg6
    have hEE7 := (hEE5.trans hE6).trans hE7
    simp (disch := first | omega | assumption | exact shr_lt (by assumption) | exact ndiff32 (by assumption) | exact below_lt (by omega) | fail) only [List.getD_cons_zero, wBin_lss, wBin_neq, wIf_bool, wGuard_true, wBin_add64]
    by_cases hw : w < n
    case neg =>
      have hw' : ¬ (w : Int) < (bs.length : Int) := by omega
      simp (disch := first | omega | assumption | exact shr_lt (by assumption) | exact ndiff32 (by assumption) | exact below_lt (by omega) | fail) only [decide_false, if_false, Bool.false_eq_true, hw']
      exact hih5 (m5 - 1) _ _ _ (by omega) ⟨v + 1, by omega, by simp, (hE5.trans hE6).trans hE7⟩
    have hw' : (w : Int) < (bs.length : Int) := by omega
    simp (disch := first | omega | assumption | exact shr_lt (by assumption) | exact ndiff32 (by assumption) | exact below_lt (by omega) | fail) only [decide_true, if_true, hw']
    refine wJoin_rule (fun L H' nx' => L = [.bool false] ∧ Ext H7 nx7 H' nx') ?_ ?_
    · intro j hj
      simp (disch := first | omega | assumption | exact shr_lt (by assumption) | exact ndiff32 (by assumption) | exact below_lt (by omega) | fail) only [ldP_cells, hg7, cellP_lit3]
      refine wCall_rule (set20 (b := b) hk _ _) ?_
      rintro _ H8 nx8 ⟨rfl, hE8⟩
      have hnx8 := hE8.le
      have hg8 := (hE8.get nx5 (by omega)).trans hg7
      have hs32 := setOf_lt hk
      simp (disch := first | omega | assumption | exact shr_lt (by assumption) | exact ndiff32 (by assumption) | exact below_lt (by omega) | fail) only [wBin_eql, wGuard_true, bit_one, wBin_shr32, wBin_and1]
      cases hbit : (setOf b).testBit w with
      | false =>
        simp (disch := first | omega | assumption | exact shr_lt (by assumption) | exact ndiff32 (by assumption) | exact below_lt (by omega) | fail) only [if_false, Bool.false_eq_true]
        exact hj _ _ _ ⟨rfl, hE8⟩
      | true =>
        by_cases hwv : w = v
        · subst hwv
          have d4 : decide ((w : Int) ≠ (w : Int)) = false := by simp
          simp (disch := first | omega | assumption | exact shr_lt (by assumption) | exact ndiff32 (by assumption) | exact below_lt (by omega) | fail) only [if_true, if_false, Bool.false_eq_true, d4]
          exact hj _ _ _ ⟨rfl, hE8⟩
        have d4 : decide ((w : Int) ≠ (v : Int)) = true := by simp; omega
        rw [setOf_var hvar (by omega), Nat.testBit_or, Nat.testBit_two_pow_of_ne (by omega), Bool.or_false] at hbit
        have hkne : b.key ≠ 0 := by intro h; rw [h] at hbit; simp at hbit
        obtain ⟨hp0, hpn, hpb⟩ : 0 ≤ b.par ∧ b.par < n ∧ b.key.testBit b.par.toNat = true := by
          rcases hpar with ⟨h, _⟩ | ⟨_, h⟩
          · exact absurd h hkne
          · exact h
        obtain ⟨p, hp⟩ := Int.eq_ofNat_of_zero_le hp0
        obtain ⟨q, hq⟩ : ∃ q, bs[p]? = some q := ⟨_, List.getElem?_eq_getElem (by omega)⟩
        obtain ⟨hqvar, _⟩ := bcode_zero (hbag p q hq)
        have hkq := hkey.get hq
        have hin := hfit b (List.mem_of_getElem? hb) hp0 q (by rw [hp]; exact hq) w hbit
        rw [hp, Int.toNat_natCast, ← setOf_var hqvar (by omega)] at hin
        obtain ⟨B, o, row, e, hBn, hrow, hget⟩ := (hB.ext (hEE7.trans hE8)).open (i := p * 3) (by rw [bagsC_length]; omega)
        cases e
        have hq3 := fun j v hv => hget _ v (bagsC_get hq j v hv)
        have k0 : row[o + p * 3]? = some (.int .i64 q.var) := hq3 0 _ rfl
        have k1 : row[o + p * 3 + 1]? = some (.int .u32 (q.key : Int)) := hq3 1 _ rfl
        have k2 : row[o + p * 3 + 2]? = some (.int .i64 q.par) := hq3 2 _ rfl
        have hpneg : ¬ b.par < 0 := by omega
        rw [hp] at hg8 hpneg
        simp (disch := first | omega | assumption | exact shr_lt (by assumption) | exact ndiff32 (by assumption) | exact below_lt (by omega) | fail) only [wBin_lss, wGuard_false, wLd_3, ldP_cells, cellP_one, Option.elim_some, List.getElem?_cons_zero, List.getElem?_cons_succ, decide_false, if_true, if_false, Bool.false_eq_true, wIdx_slice, Int.toNat_natCast, d4, hg8, hpneg, ldP_row hrow, cellP_3 k0 k1 k2]
        refine wCall_rule (set20 (b := q) hkq _ _) ?_
        rintro _ H9 nx9 ⟨rfl, hE9⟩
        have hq32 := setOf_lt hkq
        simp (disch := first | omega | assumption | exact shr_lt (by assumption) | exact ndiff32 (by assumption) | exact below_lt (by omega) | fail) only [wBin_eql, Bool.not_true, bit_zero', wBin_shr32, wBin_and1, u32_eq_zero, hin]
        exact hj _ _ _ ⟨rfl, hE8.trans hE9⟩
    · rintro _ H8 nx8 ⟨rfl, hE8⟩
      simp (disch := first | omega | assumption | exact shr_lt (by assumption) | exact ndiff32 (by assumption) | exact below_lt (by omega) | fail) only [List.getD_cons_zero, wIf_bool, if_false, Bool.false_eq_true]
      exact hih7 (m7 - 1) _ _ _ (by omega) ⟨w + 1, by omega, by simp, hE7.trans hE8⟩
end Go.Proofs.Ytaieijjfabbfeaa

set_option linter.unusedSimpArgs false
set_option linter.unusedVariables false
set_option linter.unusedSectionVars false
namespace Go.Proofs.Ytaieijjfabbfeaa
open Go.Clo
set_option maxRecDepth 100000
/-! 14: ordinal/ordinalref30.Perm -/
def d14 : D :=
  (.seq
    (.ops [
        (none, [⟨none, some 6, .p (.mv (.c (.bool false)))⟩])] (.one .nil))
    (.seq
      (.seq
        (.ops [
            (none, [⟨none, some 9, .p (.mv (.s 0))⟩,
            ⟨none, some 10, .r (.len (.s 9) 0)⟩,
            ⟨none, some 11, .p (.mv (.s 2))⟩,
            ⟨none, some 12, .p (.mv (.s 1))⟩,
            ⟨none, some 13, .p (.bin .sub (.s 11) (.s 12))⟩,
            ⟨none, some 14, .p (.bin .neq (.s 10) (.s 13))⟩])] (.one .nil))
        (.cond (.s 14)
          (.seq
            (.ops [
                (none, [⟨none, some 6, .p (.mv (.c (.bool false)))⟩])] (.one .nil))
            .ret)
          .skip))
      (.seq
        (.seq
          (.ops [
              (none, [⟨none, some 7, .p (.mv (.c (.int .i64 0)))⟩])] (.one .nil))
          (.block 0
            (.loop [7] [6, 8, 15, 16, 17, 18, 19, 20, 21, 22, 23, 24, 25, 26, 27, 28, 29, 30, 31, 32, 33, 34, 35, 36, 37, 38, 39, 40, 41, 42, 43, 44, 45, 46, 47, 48]
              (.seq
                (.seq
                  (.ops [
                      (none, [⟨none, some 15, .p (.mv (.s 7))⟩,
                      ⟨none, some 16, .p (.mv (.s 0))⟩,
                      ⟨none, some 17, .r (.len (.s 16) 0)⟩,
                      ⟨none, some 18, .p (.bin .lss (.s 15) (.s 17))⟩])] (.one .nil))
                  (.cond (.s 18)
                    .skip
                    (.exit 0)))
                (.seq
                  (.block 1
                    (.seq
                      (.join [34] [21, 22, 23, 24, 25, 26, 27, 28, 29, 30, 31, 32, 33]
                        (.ops [
                            (none, [⟨none, some 21, .p (.mv (.s 0))⟩,
                            ⟨none, some 22, .p (.mv (.s 7))⟩,
                            ⟨none, some 23, .p (.idx (.s 21) (.s 22) none 1)⟩,
                            ⟨none, some 24, .r (.ld (.s 23) none)⟩,
                            ⟨none, some 25, .p (.mv (.s 1))⟩,
                            ⟨none, some 26, .p (.bin .lss (.s 24) (.s 25))⟩,
                            ⟨none, some 27, .p (.mv (.s 26))⟩]),
                            (some (27, false), [⟨none, some 28, .p (.mv (.s 0))⟩,
                            ⟨none, some 29, .p (.mv (.s 7))⟩,
                            ⟨none, some 30, .p (.idx (.s 28) (.s 29) none 1)⟩,
                            ⟨none, some 31, .r (.ld (.s 30) none)⟩,
                            ⟨none, some 32, .p (.mv (.s 2))⟩,
                            ⟨none, some 33, .p (.bin .geq (.s 31) (.s 32))⟩]),
                            (none, [⟨none, some 34, .p (.pick (.s 27) (.c (.bool true)) (.s 33))⟩])] (.one (.tst (.one .nil) (.one .nil))))
                        (.cond (.s 34)
                          (.seq
                            (.ops [
                                (none, [⟨none, some 6, .p (.mv (.c (.bool false)))⟩])] (.one .nil))
                            .ret)
                          .skip))
                      (.seq
                        (.ops [
                            (none, [⟨none, some 8, .p (.mv (.c (.int .i64 0)))⟩])] (.one .nil))
                        (.block 2
                          (.loop [8] [6, 35, 36, 37, 38, 39, 40, 41, 42, 43, 44, 45, 46, 47, 48]
                            (.seq
                              (.seq
                                (.ops [
                                    (none, [⟨none, some 35, .p (.mv (.s 8))⟩,
                                    ⟨none, some 36, .p (.mv (.s 7))⟩,
                                    ⟨none, some 37, .p (.bin .lss (.s 35) (.s 36))⟩])] (.one .nil))
                                (.cond (.s 37)
                                  .skip
                                  (.exit 2)))
                              (.seq
                                (.block 3
                                  (.seq
                                    (.draw [0, 0, 3, 7, 0, 0, 48, 112, 255] [
                                        (none, [⟨none, some 40, .p (.mv (.s 0))⟩,
                                        ⟨none, some 41, .p (.mv (.s 8))⟩,
                                        ⟨none, some 42, .p (.idx (.s 40) (.s 41) none 1)⟩,
                                        ⟨none, some 43, .r (.ld (.s 42) none)⟩,
                                        ⟨none, some 44, .p (.mv (.s 0))⟩,
                                        ⟨none, some 45, .p (.mv (.s 7))⟩,
                                        ⟨none, some 46, .p (.idx (.s 44) (.s 45) none 1)⟩,
                                        ⟨none, some 47, .r (.ld (.s 46) none)⟩,
                                        ⟨none, some 48, .p (.bin .eql (.s 43) (.s 47))⟩])] (.one .nil))
                                    (.cond (.s 48)
                                      (.seq
                                        (.ops [
                                            (none, [⟨none, some 6, .p (.mv (.c (.bool false)))⟩])] (.one .nil))
                                        .ret)
                                      .skip)))
                                (.ops [
                                    (none, [⟨none, some 38, .p (.mv (.s 8))⟩,
                                    ⟨none, some 39, .p (.bin .add (.s 38) (.c (.int .i64 1)))⟩,
                                    ⟨none, some 8, .p (.mv (.s 39))⟩])] (.one .nil)))))))))
                  (.ops [
                      (none, [⟨none, some 19, .p (.mv (.s 7))⟩,
                      ⟨none, some 20, .p (.bin .add (.s 19) (.c (.int .i64 1)))⟩,
                      ⟨none, some 7, .p (.mv (.s 20))⟩])] (.one .nil)))))))
        (.seq
          (.ops [
              (none, [⟨none, some 6, .p (.mv (.c (.bool true)))⟩])] (.one .nil))
          .ret))))
theorem cfn14 : cfn Try.prog 14 = some ⟨49, 6, d14.erase, [(.s 6, none)]⟩ := by kernel_rfl
theorem ok14 : d14.ok 49 6 = true := by kernel_rfl
noncomputable def F14 (a0 a1 a2 : Value) (H : Heap) (nx : Nat) (k : EP) : Prop :=
  wLen a0 0 H fun t10_1 =>
  wBin .sub a2 a1 fun t13_2 =>
  wBin .neq t10_1 t13_2 fun t14_3 =>
  wIf t14_3 (
    forceV (.bool false) fun tv_4 => k tv_4 H nx) (
    wLoop (fun tih_5 tL_6 H1 nx1 =>
      wLen a0 0 H1 fun t17_7 =>
      wBin .lss (tL_6.getD 0 undef) t17_7 fun t18_8 =>
      wIf t18_8 (
        wJoin (fun tj_9 =>
          wIdx a0 (tL_6.getD 0 undef) none 1 fun t23_11 =>
          wLd t23_11 none H1 fun t24_12 =>
          wBin .lss t24_12 a1 fun t26_13 =>
          wGuard false t26_13 (
            wIdx a0 (tL_6.getD 0 undef) none 1 fun t30_14 =>
            wLd t30_14 none H1 fun t31_15 =>
            wBin .geq t31_15 a2 fun t33_16 =>
            tj_9 [t33_16] H1 nx1) (
            tj_9 [(.bool true)] H1 nx1)) (fun tL_10 H2 nx2 =>
          wIf (tL_10.getD 0 undef) (
            forceV (.bool false) fun tv_17 => k tv_17 H2 nx2) (
            wLoop (fun tih_18 tL_19 H3 nx3 =>
              wBin .lss (tL_19.getD 0 undef) (tL_6.getD 0 undef) fun t37_20 =>
              wIf t37_20 (
                forceN (nx3 + 9) fun nx4 =>
                wIdx a0 (tL_19.getD 0 undef) none 1 fun t42_21 =>
                wLd t42_21 none H3 fun t43_22 =>
                wIdx a0 (tL_6.getD 0 undef) none 1 fun t46_23 =>
                wLd t46_23 none H3 fun t47_24 =>
                wBin .eql t43_22 t47_24 fun t48_25 =>
                (((((wLd t46_23 none H3 fun tq_27 => tq_27 = t47_24) ∧ True) ∧ (((wLd t42_21 none H3 fun tq_26 => tq_26 = t43_22) ∧ True) ∧ True))) ∧ (
                  wIf t48_25 (
                    forceV (.bool false) fun tv_28 => k tv_28 H3 nx4) (
                    wBin .add (tL_19.getD 0 undef) (.int .i64 1) fun t39_29 =>
                    tih_18 [t39_29] H3 nx4))) ∨ False) (
                wBin .add (tL_6.getD 0 undef) (.int .i64 1) fun t20_30 =>
                tih_5 [t20_30] H3 nx3)) [(.int .i64 0)] H2 nx2))) (
        forceV (.bool true) fun tv_31 => k tv_31 H1 nx1)) [(.int .i64 0)] H nx)
theorem eq14 (a0 a1 a2 : Value) (H : Heap) (nx : Nat) (k : EP) : wBody Try.prog 49 6 d14 [(.s 6, none)] [a0, a1, a2] H nx k = F14 a0 a1 a2 H nx k := by kernel_rfl
theorem spec14 {a0 a1 a2 : Value} {H : Heap} {nx : Nat} {k : EP} (h : F14 a0 a1 a2 H nx k) : Ans Try.prog 14 [a0, a1, a2] H nx k :=
  spec_of_body mixed namesOK cfn14 ok14 (by simp) ((eq14 a0 a1 a2 H nx k).symm ▸ h)

/-! 35: ordinal/ordinalref30.Order -/
def d35 : D :=
  (.seq
    (.ops [
        (none, [⟨none, some 4, .p (.mv (.c (.slice none 0 0)))⟩])] (.one .nil))
    (.seq
      (.ops [
          (none, [⟨none, some 5, .p (.mv (.c (.slice none 0 0)))⟩])] (.one .nil))
      (.seq
        (.ops [
            (none, [⟨none, some 7, .p (.mv (.s 5))⟩,
            ⟨none, some 8, .p (.mv (.s 1))⟩,
            ⟨none, some 9, .e (.app (.s 7) (.s 8) 1 8)⟩,
            ⟨none, some 5, .p (.mv (.s 9))⟩])] (.one .nil))
        (.seq
          (.seq
            (.ops [
                (none, [⟨none, some 10, .p (.mv (.s 0))⟩,
                ⟨none, some 11, .p (.bin .sub (.s 10) (.c (.int .i64 1)))⟩,
                ⟨none, some 6, .p (.mv (.s 11))⟩])] (.one .nil))
            (.block 0
              (.loop [5, 6] [12, 13, 14, 15, 16, 17, 18, 19]
                (.seq
                  (.seq
                    (.ops [
                        (none, [⟨none, some 12, .p (.mv (.s 6))⟩,
                        ⟨none, some 13, .p (.bin .geq (.s 12) (.c (.int .i64 0)))⟩])] (.one .nil))
                    (.cond (.s 13)
                      .skip
                      (.exit 0)))
                  (.seq
                    (.block 1
                      (.ops [
                          (none, [⟨none, some 16, .p (.mv (.s 5))⟩,
                          ⟨none, some 17, .p (.mv (.s 6))⟩,
                          ⟨none, some 18, .a (.bsl 1 1 [.int .i64 0] [(0, .s 17)])⟩,
                          ⟨none, some 19, .e (.app (.s 16) (.s 18) 1 8)⟩,
                          ⟨none, some 5, .p (.mv (.s 19))⟩])] (.one .nil)))
                    (.ops [
                        (none, [⟨none, some 14, .p (.mv (.s 6))⟩,
                        ⟨none, some 15, .p (.bin .sub (.s 14) (.c (.int .i64 1)))⟩,
                        ⟨none, some 6, .p (.mv (.s 15))⟩])] (.one .nil)))))))
          (.seq
            (.ops [
                (none, [⟨none, some 20, .p (.mv (.s 5))⟩,
                ⟨none, some 4, .p (.mv (.s 20))⟩])] (.one .nil))
            .ret)))))
theorem cfn35 : cfn Try.prog 35 = some ⟨21, 5, d35.erase, [(.s 4, none)]⟩ := by kernel_rfl
theorem ok35 : d35.ok 21 5 = true := by kernel_rfl
noncomputable def F35 (a0 a1 : Value) (H : Heap) (nx : Nat) (k : EP) : Prop :=
  wApp (.slice none 0 0) a1 1 8 H nx fun t9_1 H1 nx1 =>
  wBin .sub a0 (.int .i64 1) fun t11_2 =>
  wLoop (fun tih_3 tL_4 H2 nx2 =>
    wBin .geq (tL_4.getD 1 undef) (.int .i64 0) fun t13_5 =>
    wIf t13_5 (
      dBsl 1 1 [.int .i64 0] [(0, (tL_4.getD 1 undef))] fun tc_6 => wNew (.cells tc_6 0) (.slice 1 1) H2 nx2 fun t18_7 H3 nx3 =>
      wApp (tL_4.getD 0 undef) t18_7 1 8 H3 nx3 fun t19_8 H4 nx4 =>
      wBin .sub (tL_4.getD 1 undef) (.int .i64 1) fun t15_9 =>
      tih_3 [t19_8, t15_9] H4 nx4) (
      forceV (tL_4.getD 0 undef) fun tv_10 => k tv_10 H2 nx2)) [t9_1, t11_2] H1 nx1
theorem eq35 (a0 a1 : Value) (H : Heap) (nx : Nat) (k : EP) : wBody Try.prog 21 5 d35 [(.s 4, none)] [a0, a1] H nx k = F35 a0 a1 H nx k := by kernel_rfl
theorem spec35 {a0 a1 : Value} {H : Heap} {nx : Nat} {k : EP} (h : F35 a0 a1 H nx k) : Ans Try.prog 35 [a0, a1] H nx k :=
  spec_of_body mixed namesOK cfn35 ok35 (by simp) ((eq35 a0 a1 H nx k).symm ▸ h)

/-! 51: ordinal/ordinalref26.Adjacent -/
def d51 : D :=
  (.seq
    (.ops [
        (none, [⟨none, some 3, .a (.box (.s 0))⟩,
        ⟨none, some 6, .p (.mv (.c (.bool false)))⟩])] (.one .nil))
    (.seq
      (.seq
        (.ops [
            (none, [⟨none, some 7, .p (.mv (.c (.int .i64 0)))⟩])] (.one .nil))
        (.block 0
          (.loop [7] [6, 8, 9, 10, 11, 12, 13, 14, 15, 16, 17, 18, 19, 20, 21, 22, 23, 24, 25, 26, 27, 28, 29, 30, 31, 32, 33, 34, 35]
            (.seq
              (.seq
                (.ops [
                    (none, [⟨none, some 8, .p (.mv (.s 7))⟩,
                    ⟨none, some 9, .p (.fld (.s 3) 1)⟩,
                    ⟨none, some 10, .r (.ld (.s 9) none)⟩,
                    ⟨none, some 11, .r (.len (.s 10) 0)⟩,
                    ⟨none, some 12, .p (.bin .lss (.s 8) (.s 11))⟩])] (.one .nil))
                (.cond (.s 12)
                  .skip
                  (.exit 0)))
              (.seq
                (.block 1
                  (.join [35] [15, 16, 17, 18, 19, 20, 21, 22, 23, 24, 25, 26, 27, 28, 29, 30, 31, 32, 33, 34]
                    (.ops [
                        (none, [⟨none, some 15, .p (.mv (.s 1))⟩,
                        ⟨none, some 16, .p (.mv (.s 2))⟩,
                        ⟨none, some 17, .p (.bin .neq (.s 15) (.s 16))⟩,
                        ⟨none, some 18, .p (.mv (.s 17))⟩]),
                        (some (18, true), [⟨none, some 19, .p (.fld (.s 3) 1)⟩,
                        ⟨none, some 20, .r (.ld (.s 19) none)⟩,
                        ⟨none, some 21, .p (.mv (.s 7))⟩,
                        ⟨none, some 22, .p (.idx (.s 20) (.s 21) none 1)⟩,
                        ⟨none, some 23, .r (.ld (.s 22) none)⟩,
                        ⟨none, some 24, .p (.mv (.s 1))⟩,
                        ⟨none, some 25, .e (.call (.c (.func (.func 29) ⟨[]⟩ ⟨[]⟩)) [.s 23, .s 24])⟩]),
                        (none, [⟨none, some 26, .p (.pick (.s 18) (.s 25) (.c (.bool false)))⟩,
                        ⟨none, some 27, .p (.mv (.s 26))⟩]),
                        (some (27, true), [⟨none, some 28, .p (.fld (.s 3) 1)⟩,
                        ⟨none, some 29, .r (.ld (.s 28) none)⟩,
                        ⟨none, some 30, .p (.mv (.s 7))⟩,
                        ⟨none, some 31, .p (.idx (.s 29) (.s 30) none 1)⟩,
                        ⟨none, some 32, .r (.ld (.s 31) none)⟩,
                        ⟨none, some 33, .p (.mv (.s 2))⟩,
                        ⟨none, some 34, .e (.call (.c (.func (.func 29) ⟨[]⟩ ⟨[]⟩)) [.s 32, .s 33])⟩]),
                        (none, [⟨none, some 35, .p (.pick (.s 27) (.s 34) (.c (.bool false)))⟩])] (.one (.tst (.one (.tst (.one .nil) (.one .nil))) (.one (.one (.one .nil))))))
                    (.cond (.s 35)
                      (.seq
                        (.ops [
                            (none, [⟨none, some 6, .p (.mv (.c (.bool true)))⟩])] (.one .nil))
                        .ret)
                      .skip)))
                (.ops [
                    (none, [⟨none, some 13, .p (.mv (.s 7))⟩,
                    ⟨none, some 14, .p (.bin .add (.s 13) (.c (.int .i64 1)))⟩,
                    ⟨none, some 7, .p (.mv (.s 14))⟩])] (.one .nil)))))))
      (.seq
        (.ops [
            (none, [⟨none, some 6, .p (.mv (.c (.bool false)))⟩])] (.one .nil))
        .ret)))
theorem cfn51 : cfn Try.prog 51 = some ⟨36, 6, d51.erase, [(.s 6, none)]⟩ := by kernel_rfl
theorem ok51 : d51.ok 36 6 = true := by kernel_rfl
noncomputable def F51 (a0 a1 a2 : Value) (H : Heap) (nx : Nat) (k : EP) : Prop :=
  dBox a0 fun tc_1 => wNew (.cells tc_1 0) .ptr H nx fun t3_2 H1 nx1 =>
  wLoop (fun tih_3 tL_4 H2 nx2 =>
    wFld t3_2 1 fun t9_5 =>
    wLd t9_5 none H2 fun t10_6 =>
    wLen t10_6 0 H2 fun t11_7 =>
    wBin .lss (tL_4.getD 0 undef) t11_7 fun t12_8 =>
    wIf t12_8 (
      wJoin (fun tj_9 =>
        wBin .neq a1 a2 fun t17_11 =>
        wGuard true t17_11 (
          wFld t3_2 1 fun t19_12 =>
          wLd t19_12 none H2 fun t20_13 =>
          wIdx t20_13 (tL_4.getD 0 undef) none 1 fun t22_14 =>
          wLd t22_14 none H2 fun t23_15 =>
          wCall Try.prog 29 [t23_15, a1] H2 nx2 fun t25_16 H4 nx4 =>
          wGuard true t25_16 (
            wFld t3_2 1 fun t28_17 =>
            wLd t28_17 none H4 fun t29_18 =>
            wIdx t29_18 (tL_4.getD 0 undef) none 1 fun t31_19 =>
            wLd t31_19 none H4 fun t32_20 =>
            wCall Try.prog 29 [t32_20, a2] H4 nx4 fun t34_21 H5 nx5 =>
            tj_9 [t34_21] H5 nx5) (
            tj_9 [(.bool false)] H4 nx4)) (
            tj_9 [(.bool false)] H2 nx2)) (fun tL_10 H3 nx3 =>
        wIf (tL_10.getD 0 undef) (
          forceV (.bool true) fun tv_22 => k tv_22 H3 nx3) (
          wBin .add (tL_4.getD 0 undef) (.int .i64 1) fun t14_23 =>
          tih_3 [t14_23] H3 nx3))) (
      forceV (.bool false) fun tv_24 => k tv_24 H2 nx2)) [(.int .i64 0)] H1 nx1
theorem eq51 (a0 a1 a2 : Value) (H : Heap) (nx : Nat) (k : EP) : wBody Try.prog 36 6 d51 [(.s 6, none)] [a0, a1, a2] H nx k = F51 a0 a1 a2 H nx k := by kernel_rfl
theorem spec51 {a0 a1 a2 : Value} {H : Heap} {nx : Nat} {k : EP} (h : F51 a0 a1 a2 H nx k) : Ans Try.prog 51 [a0, a1, a2] H nx k :=
  spec_of_body mixed namesOK cfn51 ok51 (by simp) ((eq51 a0 a1 a2 H nx k).symm ▸ h)

/-! 34: ordinal/ordinalref26.Neighbors -/
def d34 : D :=
  (.seq
    (.ops [
        (none, [⟨none, some 2, .a (.box (.s 0))⟩,
        ⟨none, some 4, .p (.mv (.c (.int .u32 0)))⟩])] (.one .nil))
    (.seq
      (.ops [
          (none, [⟨none, some 5, .p (.mv (.c (.int .u32 0)))⟩])] (.one .nil))
      (.seq
        (.seq
          (.ops [
              (none, [⟨none, some 6, .p (.mv (.c (.int .i64 0)))⟩])] (.one .nil))
          (.block 0
            (.loop [5, 6] [7, 8, 9, 10, 11, 12, 13, 14, 15, 16, 17, 18, 19, 20]
              (.seq
                (.seq
                  (.ops [
                      (none, [⟨none, some 7, .p (.mv (.s 6))⟩,
                      ⟨none, some 8, .p (.fld (.s 2) 0)⟩,
                      ⟨none, some 9, .r (.ld (.s 8) none)⟩,
                      ⟨none, some 10, .p (.bin .lss (.s 7) (.s 9))⟩])] (.one .nil))
                  (.cond (.s 10)
                    .skip
                    (.exit 0)))
                (.join [5] [13, 14, 15, 16, 17, 18, 19, 20]
                  (.block 1
                    (.seq
                      (.ops [
                          (none, [⟨none, some 13, .r (.ld (.s 2) (some 2))⟩,
                          ⟨none, some 14, .p (.mv (.s 1))⟩,
                          ⟨none, some 15, .p (.mv (.s 6))⟩,
                          ⟨none, some 16, .e (.call (.c (.func (.func 51) ⟨[]⟩ ⟨[]⟩)) [.s 13, .s 14, .s 15])⟩])] (.one .nil))
                      (.cond (.s 16)
                        (.ops [
                            (none, [⟨none, some 17, .p (.mv (.s 5))⟩,
                            ⟨none, some 18, .p (.mv (.s 6))⟩,
                            ⟨none, some 19, .p (.bin .shl (.c (.int .u32 1)) (.s 18))⟩,
                            ⟨none, some 20, .p (.bin .add (.s 17) (.s 19))⟩,
                            ⟨none, some 5, .p (.mv (.s 20))⟩])] (.one .nil))
                        .skip)))
                  (.ops [
                      (none, [⟨none, some 11, .p (.mv (.s 6))⟩,
                      ⟨none, some 12, .p (.bin .add (.s 11) (.c (.int .i64 1)))⟩,
                      ⟨none, some 6, .p (.mv (.s 12))⟩])] (.one .nil)))))))
        (.seq
          (.ops [
              (none, [⟨none, some 21, .p (.mv (.s 5))⟩,
              ⟨none, some 4, .p (.mv (.s 21))⟩])] (.one .nil))
          .ret))))
theorem cfn34 : cfn Try.prog 34 = some ⟨22, 5, d34.erase, [(.s 4, none)]⟩ := by kernel_rfl
theorem ok34 : d34.ok 22 5 = true := by kernel_rfl
noncomputable def F34 (a0 a1 : Value) (H : Heap) (nx : Nat) (k : EP) : Prop :=
  dBox a0 fun tc_1 => wNew (.cells tc_1 0) .ptr H nx fun t2_2 H1 nx1 =>
  wLoop (fun tih_3 tL_4 H2 nx2 =>
    wFld t2_2 0 fun t8_5 =>
    wLd t8_5 none H2 fun t9_6 =>
    wBin .lss (tL_4.getD 1 undef) t9_6 fun t10_7 =>
    wIf t10_7 (
      wJoin (fun tj_8 =>
        wLd t2_2 (some 2) H2 fun t13_10 =>
        wCall Try.prog 51 [t13_10, a1, (tL_4.getD 1 undef)] H2 nx2 fun t16_11 H4 nx4 =>
        wIf t16_11 (
          wBin .shl (.int .u32 1) (tL_4.getD 1 undef) fun t19_12 =>
          wBin .add (tL_4.getD 0 undef) t19_12 fun t20_13 =>
          tj_8 [t20_13] H4 nx4) (
          tj_8 [(tL_4.getD 0 undef)] H4 nx4)) (fun tL_9 H3 nx3 =>
        wBin .add (tL_4.getD 1 undef) (.int .i64 1) fun t12_14 =>
        tih_3 [(tL_9.getD 0 undef), t12_14] H3 nx3)) (
      forceV (tL_4.getD 0 undef) fun tv_15 => k tv_15 H2 nx2)) [(.int .u32 0), (.int .i64 0)] H1 nx1
theorem eq34 (a0 a1 : Value) (H : Heap) (nx : Nat) (k : EP) : wBody Try.prog 22 5 d34 [(.s 4, none)] [a0, a1] H nx k = F34 a0 a1 H nx k := by kernel_rfl
theorem spec34 {a0 a1 : Value} {H : Heap} {nx : Nat} {k : EP} (h : F34 a0 a1 H nx k) : Ans Try.prog 34 [a0, a1] H nx k :=
  spec_of_body mixed namesOK cfn34 ok34 (by simp) ((eq34 a0 a1 H nx k).symm ▸ h)

/-! 15: slices.Equal[[]ordinal/ordinalref30.Bag,ordinal/ordinalref30.Bag] -/
def d15 : D :=
  (.seq
    (.ops [
        (none, [⟨none, some 4, .p (.mv (.c (.bool false)))⟩])] (.one .nil))
    (.seq
      (.seq
        (.ops [
            (none, [⟨none, some 6, .p (.mv (.s 0))⟩,
            ⟨none, some 7, .r (.len (.s 6) 0)⟩,
            ⟨none, some 8, .p (.mv (.s 1))⟩,
            ⟨none, some 9, .r (.len (.s 8) 0)⟩,
            ⟨none, some 10, .p (.bin .neq (.s 7) (.s 9))⟩])] (.one .nil))
        (.cond (.s 10)
          (.seq
            (.ops [
                (none, [⟨none, some 4, .p (.mv (.c (.bool false)))⟩])] (.one .nil))
            .ret)
          .skip))
      (.seq
        (.seq
          (.ops [
              (none, [⟨none, some 11, .p (.mv (.s 0))⟩,
              ⟨none, some 12, .r (.len (.s 11) 0)⟩,
              ⟨none, some 13, .p (.mv (.c (.int .i64 0)))⟩])] (.one .nil))
          (.block 0
            (.loop [13] [4, 5, 14, 15, 16, 17, 18, 19, 20, 21, 22, 23, 24, 25]
              (.seq
                (.ops [
                    (none, [⟨none, some 14, .p (.bin .lss (.s 13) (.s 12))⟩])] (.one .nil))
                (.seq
                  (.cond (.s 14)
                    .skip
                    (.exit 0))
                  (.seq
                    (.block 1
                      (.seq
                        (.ops [
                            (none, [⟨none, some 15, .p (.mv (.s 13))⟩,
                            ⟨none, some 5, .p (.mv (.s 15))⟩])] (.one .nil))
                        (.seq
                          (.draw [0, 0, 3, 7, 0, 0, 48, 112, 255] [
                              (none, [⟨none, some 16, .p (.mv (.s 0))⟩,
                              ⟨none, some 17, .p (.mv (.s 5))⟩,
                              ⟨none, some 18, .p (.idx (.s 16) (.s 17) none 3)⟩,
                              ⟨none, some 19, .r (.ld (.s 18) (some 3))⟩,
                              ⟨none, some 20, .p (.mv (.s 1))⟩,
                              ⟨none, some 21, .p (.mv (.s 5))⟩,
                              ⟨none, some 22, .p (.idx (.s 20) (.s 21) none 3)⟩,
                              ⟨none, some 23, .r (.ld (.s 22) (some 3))⟩,
                              ⟨none, some 24, .p (.vf (.eqs true [⟨0, 0⟩, ⟨1, 0⟩, ⟨2, 0⟩]) [.s 19, .s 23])⟩])] (.one .nil))
                          (.cond (.s 24)
                            (.seq
                              (.ops [
                                  (none, [⟨none, some 4, .p (.mv (.c (.bool false)))⟩])] (.one .nil))
                              .ret)
                            .skip))))
                    (.ops [
                        (none, [⟨none, some 25, .p (.bin .add (.s 13) (.c (.int .i64 1)))⟩,
                        ⟨none, some 13, .p (.mv (.s 25))⟩])] (.one .nil))))))))
        (.seq
          (.ops [
              (none, [⟨none, some 4, .p (.mv (.c (.bool true)))⟩])] (.one .nil))
          .ret))))
theorem cfn15 : cfn Try.prog 15 = some ⟨26, 5, d15.erase, [(.s 4, none)]⟩ := by kernel_rfl
theorem ok15 : d15.ok 26 5 = true := by kernel_rfl
noncomputable def F15 (a0 a1 : Value) (H : Heap) (nx : Nat) (k : EP) : Prop :=
  wLen a0 0 H fun t7_1 =>
  wLen a1 0 H fun t9_2 =>
  wBin .neq t7_1 t9_2 fun t10_3 =>
  wIf t10_3 (
    forceV (.bool false) fun tv_4 => k tv_4 H nx) (
    wLen a0 0 H fun t12_5 =>
    wLoop (fun tih_6 tL_7 H1 nx1 =>
      wBin .lss (tL_7.getD 0 undef) t12_5 fun t14_8 =>
      wIf t14_8 (
        forceN (nx1 + 9) fun nx2 =>
        wIdx a0 (tL_7.getD 0 undef) none 3 fun t18_9 =>
        wLd t18_9 (some 3) H1 fun t19_10 =>
        wIdx a1 (tL_7.getD 0 undef) none 3 fun t22_11 =>
        wLd t22_11 (some 3) H1 fun t23_12 =>
        wVf (.eqs true [⟨0, 0⟩, ⟨1, 0⟩, ⟨2, 0⟩]) [t19_10, t23_12] fun t24_13 =>
        (((((wLd t22_11 (some 3) H1 fun tq_15 => tq_15 = t23_12) ∧ True) ∧ (((wLd t18_9 (some 3) H1 fun tq_14 => tq_14 = t19_10) ∧ True) ∧ True))) ∧ (
          wIf t24_13 (
            forceV (.bool false) fun tv_16 => k tv_16 H1 nx2) (
            wBin .add (tL_7.getD 0 undef) (.int .i64 1) fun t25_17 =>
            tih_6 [t25_17] H1 nx2))) ∨ False) (
        forceV (.bool true) fun tv_18 => k tv_18 H1 nx1)) [(.int .i64 0)] H nx)
theorem eq15 (a0 a1 : Value) (H : Heap) (nx : Nat) (k : EP) : wBody Try.prog 26 5 d15 [(.s 4, none)] [a0, a1] H nx k = F15 a0 a1 H nx k := by kernel_rfl
theorem spec15 {a0 a1 : Value} {H : Heap} {nx : Nat} {k : EP} (h : F15 a0 a1 H nx k) : Ans Try.prog 15 [a0, a1] H nx k :=
  spec_of_body mixed namesOK cfn15 ok15 (by simp) ((eq15 a0 a1 H nx k).symm ▸ h)

end Go.Proofs.Ytaieijjfabbfeaa

set_option linter.unusedSimpArgs false
set_option linter.unusedVariables false
set_option linter.unusedSectionVars false
namespace Go.Proofs.Ytaieijjfabbfeaa
open Go.Clo
set_option maxRecDepth 100000
/-! 69: ordinal/hypergraph.adjacency -/
def d69 : D :=
  (.seq
    (.ops [
        (none, [⟨none, some 1, .a (.box (.s 0))⟩,
        ⟨none, some 2, .a (.alloc [.int .u32 0, .int .u32 0, .int .u32 0, .int .u32 0, .int .u32 0, .int .u32 0, .int .u32 0, .int .u32 0, .int .u32 0, .int .u32 0, .int .u32 0, .int .u32 0, .int .u32 0, .int .u32 0, .int .u32 0, .int .u32 0, .int .u32 0, .int .u32 0, .int .u32 0, .int .u32 0, .int .u32 0, .int .u32 0, .int .u32 0, .int .u32 0, .int .u32 0, .int .u32 0, .int .u32 0, .int .u32 0, .int .u32 0, .int .u32 0, .int .u32 0, .int .u32 0])⟩])] (.one .nil))
    (.seq
      (.ops [
          (none, [⟨none, some 3, .a (.alloc [.int .u32 0, .int .u32 0, .int .u32 0, .int .u32 0, .int .u32 0, .int .u32 0, .int .u32 0, .int .u32 0, .int .u32 0, .int .u32 0, .int .u32 0, .int .u32 0, .int .u32 0, .int .u32 0, .int .u32 0, .int .u32 0, .int .u32 0, .int .u32 0, .int .u32 0, .int .u32 0, .int .u32 0, .int .u32 0, .int .u32 0, .int .u32 0, .int .u32 0, .int .u32 0, .int .u32 0, .int .u32 0, .int .u32 0, .int .u32 0, .int .u32 0, .int .u32 0])⟩])] (.one .nil))
      (.seq
        (.seq
          (.ops [
              (none, [⟨none, some 7, .p (.fld (.s 1) 1)⟩,
              ⟨none, some 8, .r (.ld (.s 7) none)⟩,
              ⟨none, some 9, .r (.len (.s 8) 0)⟩,
              ⟨none, some 10, .p (.mv (.c (.int .i64 0)))⟩])] (.one .nil))
          (.block 0
            (.loop [10] [5, 6, 11, 12, 13, 14, 15, 16, 17, 18, 19, 20, 21, 22, 23, 24, 25, 26, 27, 28, 29, 30, 31, 32, 33, 34]
              (.seq
                (.ops [
                    (none, [⟨none, some 11, .p (.bin .lss (.s 10) (.s 9))⟩])] (.one .nil))
                (.seq
                  (.cond (.s 11)
                    .skip
                    (.exit 0))
                  (.seq
                    (.block 1
                      (.seq
                        (.ops [
                            (none, [⟨none, some 12, .p (.idx (.s 8) (.s 10) none 1)⟩,
                            ⟨none, some 13, .r (.ld (.s 12) none)⟩,
                            ⟨none, some 5, .p (.mv (.s 13))⟩])] (.one .nil))
                        (.seq
                          (.ops [
                              (none, [⟨none, some 14, .p (.fld (.s 1) 0)⟩,
                              ⟨none, some 15, .r (.ld (.s 14) none)⟩,
                              ⟨none, some 16, .p (.mv (.c (.int .i64 0)))⟩])] (.one .nil))
                          (.block 2
                            (.loop [16] [6, 17, 18, 19, 20, 21, 22, 23, 24, 25, 26, 27, 28, 29, 30, 31, 32, 33]
                              (.seq
                                (.ops [
                                    (none, [⟨none, some 17, .p (.bin .lss (.s 16) (.s 15))⟩])] (.one .nil))
                                (.seq
                                  (.cond (.s 17)
                                    .skip
                                    (.exit 2))
                                  (.join [] [6, 18, 19, 20, 21, 22, 23, 24, 25, 26, 27, 28, 29, 30, 31, 32]
                                    (.block 3
                                      (.seq
                                        (.ops [
                                            (none, [⟨none, some 18, .p (.mv (.s 16))⟩,
                                            ⟨none, some 6, .p (.mv (.s 18))⟩])] (.one .nil))
                                        (.seq
                                          (.ops [
                                              (none, [⟨none, some 19, .p (.mv (.s 5))⟩,
                                              ⟨none, some 20, .p (.mv (.s 6))⟩,
                                              ⟨none, some 21, .p (.bin .shr (.s 19) (.s 20))⟩,
                                              ⟨none, some 22, .p (.bin .and (.s 21) (.c (.int .u32 1)))⟩,
                                              ⟨none, some 23, .p (.bin .eql (.s 22) (.c (.int .u32 1)))⟩])] (.one .nil))
                                          (.cond (.s 23)
                                            (.draw [0, 1, 3, 0, 0, 16, 56, 127, 255, 511] [
                                                (none, [⟨none, some 24, .p (.mv (.s 6))⟩,
                                                ⟨none, some 25, .p (.idx (.s 3) (.s 24) (some 32) 1)⟩,
                                                ⟨none, some 26, .r (.ld (.s 25) none)⟩,
                                                ⟨none, some 27, .p (.mv (.s 5))⟩,
                                                ⟨none, some 28, .p (.mv (.s 6))⟩,
                                                ⟨none, some 29, .p (.bin .shl (.c (.int .u32 1)) (.s 28))⟩,
                                                ⟨none, some 30, .p (.bin .andNot (.s 27) (.s 29))⟩,
                                                ⟨none, some 31, .p (.bin .or (.s 26) (.s 30))⟩,
                                                ⟨none, some 32, .p (.idx (.s 3) (.s 24) (some 32) 1)⟩,
                                                ⟨none, none, .e (.st (.s 32) (.s 31) 1)⟩])] (.one .nil))
                                            .skip))))
                                    (.ops [
                                        (none, [⟨none, some 33, .p (.bin .add (.s 16) (.c (.int .i64 1)))⟩,
                                        ⟨none, some 16, .p (.mv (.s 33))⟩])] (.one .nil))))))))))
                    (.ops [
                        (none, [⟨none, some 34, .p (.bin .add (.s 10) (.c (.int .i64 1)))⟩,
                        ⟨none, some 10, .p (.mv (.s 34))⟩])] (.one .nil))))))))
        (.seq
          (.ops [
              (none, [⟨none, some 35, .r (.ld (.s 3) (some 32))⟩,
              ⟨none, none, .e (.st (.s 2) (.s 35) 32)⟩])] (.one .nil))
          .ret))))
theorem cfn69 : cfn Try.prog 69 = some ⟨36, 6, d69.erase, [(.s 2, some (some 32))]⟩ := by kernel_rfl
theorem ok69 : d69.ok 36 6 = true := by kernel_rfl
noncomputable def F69 (a0 : Value) (H : Heap) (nx : Nat) (k : EP) : Prop :=
  dBox a0 fun tc_1 => wNew (.cells tc_1 0) .ptr H nx fun t1_2 H1 nx1 =>
  wNew (.cells [.int .u32 0, .int .u32 0, .int .u32 0, .int .u32 0, .int .u32 0, .int .u32 0, .int .u32 0, .int .u32 0, .int .u32 0, .int .u32 0, .int .u32 0, .int .u32 0, .int .u32 0, .int .u32 0, .int .u32 0, .int .u32 0, .int .u32 0, .int .u32 0, .int .u32 0, .int .u32 0, .int .u32 0, .int .u32 0, .int .u32 0, .int .u32 0, .int .u32 0, .int .u32 0, .int .u32 0, .int .u32 0, .int .u32 0, .int .u32 0, .int .u32 0, .int .u32 0] 0) .ptr H1 nx1 fun t2_3 H2 nx2 =>
  wNew (.cells [.int .u32 0, .int .u32 0, .int .u32 0, .int .u32 0, .int .u32 0, .int .u32 0, .int .u32 0, .int .u32 0, .int .u32 0, .int .u32 0, .int .u32 0, .int .u32 0, .int .u32 0, .int .u32 0, .int .u32 0, .int .u32 0, .int .u32 0, .int .u32 0, .int .u32 0, .int .u32 0, .int .u32 0, .int .u32 0, .int .u32 0, .int .u32 0, .int .u32 0, .int .u32 0, .int .u32 0, .int .u32 0, .int .u32 0, .int .u32 0, .int .u32 0, .int .u32 0] 0) .ptr H2 nx2 fun t3_4 H3 nx3 =>
  wFld t1_2 1 fun t7_5 =>
  wLd t7_5 none H3 fun t8_6 =>
  wLen t8_6 0 H3 fun t9_7 =>
  wLoop (fun tih_8 tL_9 H4 nx4 =>
    wBin .lss (tL_9.getD 0 undef) t9_7 fun t11_10 =>
    wIf t11_10 (
      wIdx t8_6 (tL_9.getD 0 undef) none 1 fun t12_11 =>
      wLd t12_11 none H4 fun t13_12 =>
      wFld t1_2 0 fun t14_13 =>
      wLd t14_13 none H4 fun t15_14 =>
      wLoop (fun tih_15 tL_16 H5 nx5 =>
        wBin .lss (tL_16.getD 0 undef) t15_14 fun t17_17 =>
        wIf t17_17 (
          wJoin (fun tj_18 =>
            wBin .shr t13_12 (tL_16.getD 0 undef) fun t21_20 =>
            wBin .and t21_20 (.int .u32 1) fun t22_21 =>
            wBin .eql t22_21 (.int .u32 1) fun t23_22 =>
            wIf t23_22 (
              forceN (nx5 + 10) fun nx7 =>
              wIdx t3_4 (tL_16.getD 0 undef) (some 32) 1 fun t25_23 =>
              wLd t25_23 none H5 fun t26_24 =>
              wBin .shl (.int .u32 1) (tL_16.getD 0 undef) fun t29_25 =>
              wBin .andNot t13_12 t29_25 fun t30_26 =>
              wBin .or t26_24 t30_26 fun t31_27 =>
              wIdx t3_4 (tL_16.getD 0 undef) (some 32) 1 fun t32_28 =>
              wSt t32_28 t31_27 1 H5 fun H8 =>
              (((((True) ∧ ((wLd t25_23 none H5 fun tq_29 => tq_29 = t26_24) ∧ True)) ∧ True)) ∧ (
                tj_18 [] H8 nx7)) ∨ False) (
              tj_18 [] H5 nx5)) (fun tL_19 H6 nx6 =>
            wBin .add (tL_16.getD 0 undef) (.int .i64 1) fun t33_30 =>
            tih_15 [t33_30] H6 nx6)) (
          wBin .add (tL_9.getD 0 undef) (.int .i64 1) fun t34_31 =>
          tih_8 [t34_31] H5 nx5)) [(.int .i64 0)] H4 nx4) (
      wLd t3_4 (some 32) H4 fun t35_32 =>
      wSt t2_3 t35_32 32 H4 fun H9 =>
      wLd t2_3 (some 32) H9 fun tr_33 =>
      forceV tr_33 fun tv_34 => k tv_34 H9 nx4)) [(.int .i64 0)] H3 nx3
theorem eq69 (a0 : Value) (H : Heap) (nx : Nat) (k : EP) : wBody Try.prog 36 6 d69 [(.s 2, some (some 32))] [a0] H nx k = F69 a0 H nx k := by kernel_rfl
theorem spec69 {a0 : Value} {H : Heap} {nx : Nat} {k : EP} (h : F69 a0 H nx k) : Ans Try.prog 69 [a0] H nx k :=
  spec_of_body mixed namesOK cfn69 ok69 (by simp) ((eq69 a0 H nx k).symm ▸ h)

/-! 50: ordinal/hypergraph.Neighbors -/
def d50 : D :=
  (.seq
    (.ops [
        (none, [⟨none, some 2, .a (.box (.s 0))⟩,
        ⟨none, some 4, .p (.mv (.c (.int .u32 0)))⟩])] (.one .nil))
    (.seq
      (.join [17] [5, 6, 7, 8, 9, 10, 11, 12, 13, 14, 15, 16]
        (.ops [
            (none, [⟨none, some 5, .r (.ld (.s 2) (some 2))⟩,
            ⟨none, some 6, .e (.call (.c (.func (.func 37) ⟨[]⟩ ⟨[]⟩)) [.s 5])⟩,
            ⟨none, some 7, .p (.bin .neq (.s 6) (.c (.int .i64 0)))⟩,
            ⟨none, some 8, .p (.mv (.s 7))⟩]),
            (some (8, false), [⟨none, some 9, .p (.mv (.s 1))⟩,
            ⟨none, some 10, .p (.bin .lss (.s 9) (.c (.int .i64 0)))⟩]),
            (none, [⟨none, some 11, .p (.pick (.s 8) (.c (.bool true)) (.s 10))⟩,
            ⟨none, some 12, .p (.mv (.s 11))⟩]),
            (some (12, false), [⟨none, some 13, .p (.mv (.s 1))⟩,
            ⟨none, some 14, .p (.fld (.s 2) 0)⟩,
            ⟨none, some 15, .r (.ld (.s 14) none)⟩,
            ⟨none, some 16, .p (.bin .geq (.s 13) (.s 15))⟩]),
            (none, [⟨none, some 17, .p (.pick (.s 12) (.c (.bool true)) (.s 16))⟩])] (.one (.tst (.one (.tst (.one .nil) (.one .nil))) (.one (.one (.one .nil))))))
        (.cond (.s 17)
          (.seq
            (.ops [
                (none, [⟨none, some 4, .p (.mv (.c (.int .u32 0)))⟩])] (.one .nil))
            .ret)
          .skip))
      (.seq
        (.ops [
            (none, [⟨none, some 18, .r (.ld (.s 2) (some 2))⟩,
            ⟨none, some 19, .e (.call (.c (.func (.func 69) ⟨[]⟩ ⟨[]⟩)) [.s 18])⟩,
            ⟨none, some 20, .p (.mv (.s 1))⟩,
            ⟨none, some 21, .p (.aidx (.s 19) (.s 20) 32 1 false)⟩,
            ⟨none, some 4, .p (.mv (.s 21))⟩])] (.one .nil))
        .ret)))
theorem cfn50 : cfn Try.prog 50 = some ⟨22, 5, d50.erase, [(.s 4, none)]⟩ := by kernel_rfl
theorem ok50 : d50.ok 22 5 = true := by kernel_rfl
noncomputable def F50 (a0 a1 : Value) (H : Heap) (nx : Nat) (k : EP) : Prop :=
  dBox a0 fun tc_1 => wNew (.cells tc_1 0) .ptr H nx fun t2_2 H1 nx1 =>
  wJoin (fun tj_3 =>
    wLd t2_2 (some 2) H1 fun t5_5 =>
    wCall Try.prog 37 [t5_5] H1 nx1 fun t6_6 H3 nx3 =>
    wBin .neq t6_6 (.int .i64 0) fun t7_7 =>
    wGuard false t7_7 (
      wBin .lss a1 (.int .i64 0) fun t10_8 =>
      wGuard false t10_8 (
        wFld t2_2 0 fun t14_9 =>
        wLd t14_9 none H3 fun t15_10 =>
        wBin .geq a1 t15_10 fun t16_11 =>
        tj_3 [t16_11] H3 nx3) (
        tj_3 [(.bool true)] H3 nx3)) (
        tj_3 [(.bool true)] H3 nx3)) (fun tL_4 H2 nx2 =>
    wIf (tL_4.getD 0 undef) (
      forceV (.int .u32 0) fun tv_12 => k tv_12 H2 nx2) (
      wLd t2_2 (some 2) H2 fun t18_13 =>
      wCall Try.prog 69 [t18_13] H2 nx2 fun t19_14 H4 nx4 =>
      wAidx t19_14 a1 32 1 false fun t21_15 =>
      forceV t21_15 fun tv_16 => k tv_16 H4 nx4))
theorem eq50 (a0 a1 : Value) (H : Heap) (nx : Nat) (k : EP) : wBody Try.prog 22 5 d50 [(.s 4, none)] [a0, a1] H nx k = F50 a0 a1 H nx k := by kernel_rfl
theorem spec50 {a0 a1 : Value} {H : Heap} {nx : Nat} {k : EP} (h : F50 a0 a1 H nx k) : Ans Try.prog 50 [a0, a1] H nx k :=
  spec_of_body mixed namesOK cfn50 ok50 (by simp) ((eq50 a0 a1 H nx k).symm ▸ h)

/-! 33: ordinal/elimination.adjacency -/
def d33 : D :=
  (.seq
    (.ops [
        (none, [⟨none, some 1, .a (.box (.s 0))⟩,
        ⟨none, some 2, .a (.alloc [.int .u32 0, .int .u32 0, .int .u32 0, .int .u32 0, .int .u32 0, .int .u32 0, .int .u32 0, .int .u32 0, .int .u32 0, .int .u32 0, .int .u32 0, .int .u32 0, .int .u32 0, .int .u32 0, .int .u32 0, .int .u32 0, .int .u32 0, .int .u32 0, .int .u32 0, .int .u32 0, .int .u32 0, .int .u32 0, .int .u32 0, .int .u32 0, .int .u32 0, .int .u32 0, .int .u32 0, .int .u32 0, .int .u32 0, .int .u32 0, .int .u32 0, .int .u32 0])⟩])] (.one .nil))
    (.seq
      (.ops [
          (none, [⟨none, some 3, .a (.alloc [.int .u32 0, .int .u32 0, .int .u32 0, .int .u32 0, .int .u32 0, .int .u32 0, .int .u32 0, .int .u32 0, .int .u32 0, .int .u32 0, .int .u32 0, .int .u32 0, .int .u32 0, .int .u32 0, .int .u32 0, .int .u32 0, .int .u32 0, .int .u32 0, .int .u32 0, .int .u32 0, .int .u32 0, .int .u32 0, .int .u32 0, .int .u32 0, .int .u32 0, .int .u32 0, .int .u32 0, .int .u32 0, .int .u32 0, .int .u32 0, .int .u32 0, .int .u32 0])⟩])] (.one .nil))
      (.seq
        (.seq
          (.ops [
              (none, [⟨none, some 5, .p (.fld (.s 1) 0)⟩,
              ⟨none, some 6, .r (.ld (.s 5) none)⟩,
              ⟨none, some 7, .p (.mv (.c (.int .i64 0)))⟩])] (.one .nil))
          (.block 0
            (.loop [7] [4, 8, 9, 10, 11, 12, 13, 14, 15]
              (.seq
                (.ops [
                    (none, [⟨none, some 8, .p (.bin .lss (.s 7) (.s 6))⟩])] (.one .nil))
                (.seq
                  (.cond (.s 8)
                    .skip
                    (.exit 0))
                  (.seq
                    (.block 1
                      (.seq
                        (.ops [
                            (none, [⟨none, some 9, .p (.mv (.s 7))⟩,
                            ⟨none, some 4, .p (.mv (.s 9))⟩])] (.one .nil))
                        (.ops [
                            (none, [⟨none, some 10, .p (.mv (.s 4))⟩,
                            ⟨none, some 11, .r (.ld (.s 1) (some 2))⟩,
                            ⟨none, some 12, .p (.mv (.s 4))⟩,
                            ⟨none, some 13, .e (.call (.c (.func (.func 50) ⟨[]⟩ ⟨[]⟩)) [.s 11, .s 12])⟩,
                            ⟨none, some 14, .p (.idx (.s 3) (.s 10) (some 32) 1)⟩,
                            ⟨none, none, .e (.st (.s 14) (.s 13) 1)⟩])] (.one .nil))))
                    (.ops [
                        (none, [⟨none, some 15, .p (.bin .add (.s 7) (.c (.int .i64 1)))⟩,
                        ⟨none, some 7, .p (.mv (.s 15))⟩])] (.one .nil))))))))
        (.seq
          (.ops [
              (none, [⟨none, some 16, .r (.ld (.s 3) (some 32))⟩,
              ⟨none, none, .e (.st (.s 2) (.s 16) 32)⟩])] (.one .nil))
          .ret))))
theorem cfn33 : cfn Try.prog 33 = some ⟨17, 5, d33.erase, [(.s 2, some (some 32))]⟩ := by kernel_rfl
theorem ok33 : d33.ok 17 5 = true := by kernel_rfl
noncomputable def F33 (a0 : Value) (H : Heap) (nx : Nat) (k : EP) : Prop :=
  dBox a0 fun tc_1 => wNew (.cells tc_1 0) .ptr H nx fun t1_2 H1 nx1 =>
  wNew (.cells [.int .u32 0, .int .u32 0, .int .u32 0, .int .u32 0, .int .u32 0, .int .u32 0, .int .u32 0, .int .u32 0, .int .u32 0, .int .u32 0, .int .u32 0, .int .u32 0, .int .u32 0, .int .u32 0, .int .u32 0, .int .u32 0, .int .u32 0, .int .u32 0, .int .u32 0, .int .u32 0, .int .u32 0, .int .u32 0, .int .u32 0, .int .u32 0, .int .u32 0, .int .u32 0, .int .u32 0, .int .u32 0, .int .u32 0, .int .u32 0, .int .u32 0, .int .u32 0] 0) .ptr H1 nx1 fun t2_3 H2 nx2 =>
  wNew (.cells [.int .u32 0, .int .u32 0, .int .u32 0, .int .u32 0, .int .u32 0, .int .u32 0, .int .u32 0, .int .u32 0, .int .u32 0, .int .u32 0, .int .u32 0, .int .u32 0, .int .u32 0, .int .u32 0, .int .u32 0, .int .u32 0, .int .u32 0, .int .u32 0, .int .u32 0, .int .u32 0, .int .u32 0, .int .u32 0, .int .u32 0, .int .u32 0, .int .u32 0, .int .u32 0, .int .u32 0, .int .u32 0, .int .u32 0, .int .u32 0, .int .u32 0, .int .u32 0] 0) .ptr H2 nx2 fun t3_4 H3 nx3 =>
  wFld t1_2 0 fun t5_5 =>
  wLd t5_5 none H3 fun t6_6 =>
  wLoop (fun tih_7 tL_8 H4 nx4 =>
    wBin .lss (tL_8.getD 0 undef) t6_6 fun t8_9 =>
    wIf t8_9 (
      wLd t1_2 (some 2) H4 fun t11_10 =>
      wCall Try.prog 50 [t11_10, (tL_8.getD 0 undef)] H4 nx4 fun t13_11 H5 nx5 =>
      wIdx t3_4 (tL_8.getD 0 undef) (some 32) 1 fun t14_12 =>
      wSt t14_12 t13_11 1 H5 fun H6 =>
      wBin .add (tL_8.getD 0 undef) (.int .i64 1) fun t15_13 =>
      tih_7 [t15_13] H6 nx5) (
      wLd t3_4 (some 32) H4 fun t16_14 =>
      wSt t2_3 t16_14 32 H4 fun H7 =>
      wLd t2_3 (some 32) H7 fun tr_15 =>
      forceV tr_15 fun tv_16 => k tv_16 H7 nx4)) [(.int .i64 0)] H3 nx3
theorem eq33 (a0 : Value) (H : Heap) (nx : Nat) (k : EP) : wBody Try.prog 17 5 d33 [(.s 2, some (some 32))] [a0] H nx k = F33 a0 H nx k := by kernel_rfl
theorem spec33 {a0 : Value} {H : Heap} {nx : Nat} {k : EP} (h : F33 a0 H nx k) : Ans Try.prog 33 [a0] H nx k :=
  spec_of_body mixed namesOK cfn33 ok33 (by simp) ((eq33 a0 H nx k).symm ▸ h)

end Go.Proofs.Ytaieijjfabbfeaa

set_option linter.unusedSimpArgs false
set_option linter.unusedVariables false
set_option linter.unusedSectionVars false
namespace Go.Proofs.Ytaieijjfabbfeaa
open Go.Clo
set_option maxRecDepth 100000
/-! 16: ordinal/ordinalref30.Bags -/
def d16 : D :=
  (.seq
    (.ops [
        (none, [⟨none, some 3, .a (.box (.s 0))⟩,
        ⟨none, some 6, .p (.mv (.c (.slice none 0 0)))⟩])] (.one .nil))
    (.seq
      (.ops [
          (none, [⟨none, some 18, .p (.fld (.s 3) 0)⟩,
          ⟨none, some 19, .r (.ld (.s 18) none)⟩,
          ⟨none, some 20, .a (.msl (.s 19) (.s 19) [.int .u32 0])⟩,
          ⟨none, some 7, .p (.mv (.s 20))⟩])] (.one .nil))
      (.seq
        (.seq
          (.ops [
              (none, [⟨none, some 8, .p (.mv (.c (.int .i64 0)))⟩])] (.one .nil))
          (.block 0
            (.loop [8] [21, 22, 23, 24, 25, 26, 27, 28, 29, 30, 31, 32]
              (.seq
                (.seq
                  (.ops [
                      (none, [⟨none, some 21, .p (.mv (.s 8))⟩,
                      ⟨none, some 22, .p (.fld (.s 3) 0)⟩,
                      ⟨none, some 23, .r (.ld (.s 22) none)⟩,
                      ⟨none, some 24, .p (.bin .lss (.s 21) (.s 23))⟩])] (.one .nil))
                  (.cond (.s 24)
                    .skip
                    (.exit 0)))
                (.seq
                  (.block 1
                    (.ops [
                        (none, [⟨none, some 27, .p (.mv (.s 7))⟩,
                        ⟨none, some 28, .p (.mv (.s 8))⟩,
                        ⟨none, some 29, .r (.ld (.s 3) (some 2))⟩,
                        ⟨none, some 30, .p (.mv (.s 8))⟩,
                        ⟨none, some 31, .e (.call (.c (.func (.func 34) ⟨[]⟩ ⟨[]⟩)) [.s 29, .s 30])⟩,
                        ⟨none, some 32, .p (.idx (.s 27) (.s 28) none 1)⟩,
                        ⟨none, none, .e (.st (.s 32) (.s 31) 1)⟩])] (.one .nil)))
                  (.ops [
                      (none, [⟨none, some 25, .p (.mv (.s 8))⟩,
                      ⟨none, some 26, .p (.bin .add (.s 25) (.c (.int .i64 1)))⟩,
                      ⟨none, some 8, .p (.mv (.s 26))⟩])] (.one .nil)))))))
        (.seq
          (.ops [
              (none, [⟨none, some 33, .p (.fld (.s 3) 0)⟩,
              ⟨none, some 34, .r (.ld (.s 33) none)⟩,
              ⟨none, some 35, .a (.msl (.s 34) (.s 34) [.int .i64 0, .int .u32 0, .int .i64 0])⟩,
              ⟨none, some 9, .p (.mv (.s 35))⟩])] (.one .nil))
          (.seq
            (.ops [
                (none, [⟨none, some 36, .p (.mv (.s 1))⟩,
                ⟨none, some 37, .p (.mv (.s 2))⟩,
                ⟨none, some 38, .e (.call (.c (.func (.func 35) ⟨[]⟩ ⟨[]⟩)) [.s 36, .s 37])⟩,
                ⟨none, some 10, .p (.mv (.s 38))⟩])] (.one .nil))
            (.seq
              (.seq
                (.ops [
                    (none, [⟨none, some 11, .p (.mv (.c (.int .i64 0)))⟩])] (.one .nil))
                (.block 2
                  (.loop [11] [12, 13, 14, 15, 16, 17, 39, 40, 41, 42, 43, 44, 45, 46, 47, 48, 49, 50, 51, 52, 53, 54, 55, 56, 57, 58, 59, 60, 61, 62, 63, 64, 65, 66, 67, 68, 69, 70, 71, 72, 73, 74, 75, 76, 77, 78, 79, 80, 81, 82, 83, 84, 85, 86, 87, 88, 89, 90, 91, 92, 93, 94, 95, 96, 97, 98, 99, 100, 101, 102, 103, 104, 105, 106, 107, 108, 109, 110, 111, 112, 113, 114, 115, 116, 117, 118]
                    (.seq
                      (.seq
                        (.ops [
                            (none, [⟨none, some 39, .p (.mv (.s 11))⟩,
                            ⟨none, some 40, .p (.mv (.s 10))⟩,
                            ⟨none, some 41, .r (.len (.s 40) 0)⟩,
                            ⟨none, some 42, .p (.bin .lss (.s 39) (.s 41))⟩])] (.one .nil))
                        (.cond (.s 42)
                          .skip
                          (.exit 2)))
                      (.seq
                        (.block 3
                          (.seq
                            (.ops [
                                (none, [⟨none, some 45, .p (.mv (.s 10))⟩,
                                ⟨none, some 46, .p (.mv (.s 11))⟩,
                                ⟨none, some 47, .p (.idx (.s 45) (.s 46) none 1)⟩,
                                ⟨none, some 48, .r (.ld (.s 47) none)⟩,
                                ⟨none, some 12, .p (.mv (.s 48))⟩])] (.one .nil))
                            (.seq
                              (.ops [
                                  (none, [⟨none, some 13, .p (.mv (.c (.int .u32 0)))⟩,
                                  ⟨none, some 14, .p (.mv (.c (.int .i64 (-1))))⟩])] (.one .nil))
                              (.seq
                                (.seq
                                  (.ops [
                                      (none, [⟨none, some 49, .p (.mv (.s 10))⟩,
                                      ⟨none, some 50, .r (.len (.s 49) 0)⟩,
                                      ⟨none, some 51, .p (.bin .sub (.s 50) (.c (.int .i64 1)))⟩,
                                      ⟨none, some 15, .p (.mv (.s 51))⟩])] (.one .nil))
                                  (.block 4
                                    (.loop [13, 14, 15] [52, 53, 54, 55, 56, 57, 58, 59, 60, 61, 62, 63, 64, 65, 66, 67, 68, 69, 70, 71, 72, 73, 74, 75, 76]
                                      (.seq
                                        (.seq
                                          (.ops [
                                              (none, [⟨none, some 52, .p (.mv (.s 15))⟩,
                                              ⟨none, some 53, .p (.mv (.s 11))⟩,
                                              ⟨none, some 54, .p (.bin .gtr (.s 52) (.s 53))⟩])] (.one .nil))
                                          (.cond (.s 54)
                                            .skip
                                            (.exit 4)))
                                        (.join [13, 14] [57, 58, 59, 60, 61, 62, 63, 64, 65, 66, 67, 68, 69, 70, 71, 72, 73, 74, 75, 76]
                                          (.block 5
                                            (.seq
                                              (.draw [0, 0, 3, 7, 0, 0, 48, 112, 255] [
                                                  (none, [⟨none, some 57, .p (.mv (.s 7))⟩,
                                                  ⟨none, some 58, .p (.mv (.s 12))⟩,
                                                  ⟨none, some 59, .p (.idx (.s 57) (.s 58) none 1)⟩,
                                                  ⟨none, some 60, .r (.ld (.s 59) none)⟩,
                                                  ⟨none, some 61, .p (.mv (.s 10))⟩,
                                                  ⟨none, some 62, .p (.mv (.s 15))⟩,
                                                  ⟨none, some 63, .p (.idx (.s 61) (.s 62) none 1)⟩,
                                                  ⟨none, some 64, .r (.ld (.s 63) none)⟩,
                                                  ⟨none, some 65, .e (.call (.c (.func (.func 29) ⟨[]⟩ ⟨[]⟩)) [.s 60, .s 64])⟩])] (.one .nil))
                                              (.cond (.s 65)
                                                (.seq
                                                  (.ops [
                                                      (none, [⟨none, some 66, .p (.mv (.s 13))⟩,
                                                      ⟨none, some 67, .p (.mv (.s 10))⟩,
                                                      ⟨none, some 68, .p (.mv (.s 15))⟩,
                                                      ⟨none, some 69, .p (.idx (.s 67) (.s 68) none 1)⟩,
                                                      ⟨none, some 70, .r (.ld (.s 69) none)⟩,
                                                      ⟨none, some 71, .p (.bin .shl (.c (.int .u32 1)) (.s 70))⟩,
                                                      ⟨none, some 72, .p (.bin .add (.s 66) (.s 71))⟩,
                                                      ⟨none, some 13, .p (.mv (.s 72))⟩])] (.one .nil))
                                                  (.ops [
                                                      (none, [⟨none, some 73, .p (.mv (.s 10))⟩,
                                                      ⟨none, some 74, .p (.mv (.s 15))⟩,
                                                      ⟨none, some 75, .p (.idx (.s 73) (.s 74) none 1)⟩,
                                                      ⟨none, some 76, .r (.ld (.s 75) none)⟩,
                                                      ⟨none, some 14, .p (.mv (.s 76))⟩])] (.one .nil)))
                                                .skip)))
                                          (.ops [
                                              (none, [⟨none, some 55, .p (.mv (.s 15))⟩,
                                              ⟨none, some 56, .p (.bin .sub (.s 55) (.c (.int .i64 1)))⟩,
                                              ⟨none, some 15, .p (.mv (.s 56))⟩])] (.one .nil)))))))
                                (.seq
                                  (.ops [
                                      (none, [⟨none, some 77, .p (.mv (.s 9))⟩,
                                      ⟨none, some 78, .p (.mv (.s 12))⟩,
                                      ⟨none, some 79, .p (.mv (.s 12))⟩,
                                      ⟨none, some 80, .p (.mv (.s 13))⟩,
                                      ⟨none, some 81, .p (.mv (.s 14))⟩,
                                      ⟨none, some 82, .p (.build [.int .i64 0, .int .u32 0, .int .i64 0] [(0, 1), (1, 1), (2, 1)] [(0, .s 79), (1, .s 80), (2, .s 81)])⟩,
                                      ⟨none, some 83, .p (.idx (.s 77) (.s 78) none 3)⟩,
                                      ⟨none, none, .e (.st (.s 83) (.s 82) 3)⟩])] (.one .nil))
                                  (.seq
                                    (.ops [
                                        (none, [⟨none, some 16, .p (.mv (.c (.int .i64 0)))⟩])] (.one .nil))
                                    (.block 6
                                      (.loop [16] [17, 84, 85, 86, 87, 88, 89, 90, 91, 92, 93, 94, 95, 96, 97, 98, 99, 100, 101, 102, 103, 104, 105, 106, 107, 108, 109, 110, 111, 112, 113, 114, 115, 116, 117, 118]
                                        (.seq
                                          (.seq
                                            (.ops [
                                                (none, [⟨none, some 84, .p (.mv (.s 16))⟩,
                                                ⟨none, some 85, .p (.fld (.s 3) 0)⟩,
                                                ⟨none, some 86, .r (.ld (.s 85) none)⟩,
                                                ⟨none, some 87, .p (.bin .lss (.s 84) (.s 86))⟩])] (.one .nil))
                                            (.cond (.s 87)
                                              .skip
                                              (.exit 6)))
                                          (.seq
                                            (.block 7
                                              (.seq
                                                (.ops [
                                                    (none, [⟨none, some 17, .p (.mv (.c (.int .i64 0)))⟩])] (.one .nil))
                                                (.block 8
                                                  (.loop [17] [90, 91, 92, 93, 94, 95, 96, 97, 98, 99, 100, 101, 102, 103, 104, 105, 106, 107, 108, 109, 110, 111, 112, 113, 114, 115, 116, 117, 118]
                                                    (.seq
                                                      (.seq
                                                        (.ops [
                                                            (none, [⟨none, some 90, .p (.mv (.s 17))⟩,
                                                            ⟨none, some 91, .p (.fld (.s 3) 0)⟩,
                                                            ⟨none, some 92, .r (.ld (.s 91) none)⟩,
                                                            ⟨none, some 93, .p (.bin .lss (.s 90) (.s 92))⟩])] (.one .nil))
                                                        (.cond (.s 93)
                                                          .skip
                                                          (.exit 8)))
                                                      (.join [] [96, 97, 98, 99, 100, 101, 102, 103, 104, 105, 106, 107, 108, 109, 110, 111, 112, 113, 114, 115, 116, 117, 118]
                                                        (.block 9
                                                          (.join [108] [96, 97, 98, 99, 100, 101, 102, 103, 104, 105, 106, 107]
                                                            (.ops [
                                                                (none, [⟨none, some 96, .p (.mv (.s 16))⟩,
                                                                ⟨none, some 97, .p (.mv (.s 17))⟩,
                                                                ⟨none, some 98, .p (.bin .neq (.s 96) (.s 97))⟩,
                                                                ⟨none, some 99, .p (.mv (.s 98))⟩]),
                                                                (some (99, true), [⟨none, some 100, .p (.mv (.s 13))⟩,
                                                                ⟨none, some 101, .p (.mv (.s 16))⟩,
                                                                ⟨none, some 102, .e (.call (.c (.func (.func 29) ⟨[]⟩ ⟨[]⟩)) [.s 100, .s 101])⟩]),
                                                                (none, [⟨none, some 103, .p (.pick (.s 99) (.s 102) (.c (.bool false)))⟩,
                                                                ⟨none, some 104, .p (.mv (.s 103))⟩]),
                                                                (some (104, true), [⟨none, some 105, .p (.mv (.s 13))⟩,
                                                                ⟨none, some 106, .p (.mv (.s 17))⟩,
                                                                ⟨none, some 107, .e (.call (.c (.func (.func 29) ⟨[]⟩ ⟨[]⟩)) [.s 105, .s 106])⟩]),
                                                                (none, [⟨none, some 108, .p (.pick (.s 104) (.s 107) (.c (.bool false)))⟩])] (.one (.tst (.one (.tst (.one .nil) (.one .nil))) (.one (.one (.one .nil))))))
                                                            (.cond (.s 108)
                                                              (.draw [0, 0, 0, 0, 12, 28, 0, 64, 252, 511, 1023] [
                                                                  (none, [⟨none, some 109, .p (.mv (.s 7))⟩,
                                                                  ⟨none, some 110, .p (.mv (.s 16))⟩,
                                                                  ⟨none, some 111, .p (.mv (.s 7))⟩,
                                                                  ⟨none, some 112, .p (.mv (.s 16))⟩,
                                                                  ⟨none, some 113, .p (.idx (.s 111) (.s 112) none 1)⟩,
                                                                  ⟨none, some 114, .r (.ld (.s 113) none)⟩,
                                                                  ⟨none, some 115, .p (.mv (.s 17))⟩,
                                                                  ⟨none, some 116, .p (.bin .shl (.c (.int .u32 1)) (.s 115))⟩,
                                                                  ⟨none, some 117, .p (.bin .or (.s 114) (.s 116))⟩,
                                                                  ⟨none, some 118, .p (.idx (.s 109) (.s 110) none 1)⟩,
                                                                  ⟨none, none, .e (.st (.s 118) (.s 117) 1)⟩])] (.one .nil))
                                                              .skip)))
                                                        (.ops [
                                                            (none, [⟨none, some 94, .p (.mv (.s 17))⟩,
                                                            ⟨none, some 95, .p (.bin .add (.s 94) (.c (.int .i64 1)))⟩,
                                                            ⟨none, some 17, .p (.mv (.s 95))⟩])] (.one .nil))))))))
                                            (.ops [
                                                (none, [⟨none, some 88, .p (.mv (.s 16))⟩,
                                                ⟨none, some 89, .p (.bin .add (.s 88) (.c (.int .i64 1)))⟩,
                                                ⟨none, some 16, .p (.mv (.s 89))⟩])] (.one .nil))))))))))))
                        (.ops [
                            (none, [⟨none, some 43, .p (.mv (.s 11))⟩,
                            ⟨none, some 44, .p (.bin .add (.s 43) (.c (.int .i64 1)))⟩,
                            ⟨none, some 11, .p (.mv (.s 44))⟩])] (.one .nil)))))))
              (.seq
                (.ops [
                    (none, [⟨none, some 119, .p (.mv (.s 9))⟩,
                    ⟨none, some 6, .p (.mv (.s 119))⟩])] (.one .nil))
                .ret)))))))
theorem cfn16 : cfn Try.prog 16 = some ⟨120, 7, d16.erase, [(.s 6, none)]⟩ := by kernel_rfl
theorem ok16 : d16.ok 120 7 = true := by kernel_rfl
noncomputable def F16 (a0 a1 a2 : Value) (H : Heap) (nx : Nat) (k : EP) : Prop :=
  dBox a0 fun tc_1 => wNew (.cells tc_1 0) .ptr H nx fun t3_2 H1 nx1 =>
  wFld t3_2 0 fun t18_3 =>
  wLd t18_3 none H1 fun t19_4 =>
  dMsl t19_4 t19_4 [.int .u32 0] fun tc_5 tl_7 tm_8 => wNew (.cells tc_5 0) (.slice tl_7 tm_8) H1 nx1 fun t20_6 H2 nx2 =>
  wLoop (fun tih_9 tL_10 H3 nx3 =>
    wFld t3_2 0 fun t22_11 =>
    wLd t22_11 none H3 fun t23_12 =>
    wBin .lss (tL_10.getD 0 undef) t23_12 fun t24_13 =>
    wIf t24_13 (
      wLd t3_2 (some 2) H3 fun t29_14 =>
      wCall Try.prog 34 [t29_14, (tL_10.getD 0 undef)] H3 nx3 fun t31_15 H4 nx4 =>
      wIdx t20_6 (tL_10.getD 0 undef) none 1 fun t32_16 =>
      wSt t32_16 t31_15 1 H4 fun H5 =>
      wBin .add (tL_10.getD 0 undef) (.int .i64 1) fun t26_17 =>
      tih_9 [t26_17] H5 nx4) (
      wFld t3_2 0 fun t33_18 =>
      wLd t33_18 none H3 fun t34_19 =>
      dMsl t34_19 t34_19 [.int .i64 0, .int .u32 0, .int .i64 0] fun tc_20 tl_22 tm_23 => wNew (.cells tc_20 0) (.slice tl_22 tm_23) H3 nx3 fun t35_21 H6 nx6 =>
      wCall Try.prog 35 [a1, a2] H6 nx6 fun t38_24 H7 nx7 =>
      wLoop (fun tih_25 tL_26 H8 nx8 =>
        wLen t38_24 0 H8 fun t41_27 =>
        wBin .lss (tL_26.getD 0 undef) t41_27 fun t42_28 =>
        wIf t42_28 (
          wIdx t38_24 (tL_26.getD 0 undef) none 1 fun t47_29 =>
          wLd t47_29 none H8 fun t48_30 =>
          wLen t38_24 0 H8 fun t50_31 =>
          wBin .sub t50_31 (.int .i64 1) fun t51_32 =>
          wLoop (fun tih_33 tL_34 H9 nx9 =>
            wBin .gtr (tL_34.getD 2 undef) (tL_26.getD 0 undef) fun t54_35 =>
            wIf t54_35 (
              wJoin (fun tj_36 =>
                forceN (nx9 + 9) fun nx11 =>
                wIdx t20_6 t48_30 none 1 fun t59_38 =>
                wLd t59_38 none H9 fun t60_39 =>
                wIdx t38_24 (tL_34.getD 2 undef) none 1 fun t63_40 =>
                wLd t63_40 none H9 fun t64_41 =>
                wCall Try.prog 29 [t60_39, t64_41] H9 nx11 fun t65_42 H12 nx12 =>
                (((((True) ∧ ((wLd t63_40 none H9 fun tq_44 => tq_44 = t64_41) ∧ True)) ∧ (((True) ∧ ((wLd t59_38 none H9 fun tq_43 => tq_43 = t60_39) ∧ True)) ∧ True))) ∧ (
                  wIf t65_42 (
                    wIdx t38_24 (tL_34.getD 2 undef) none 1 fun t69_45 =>
                    wLd t69_45 none H12 fun t70_46 =>
                    wBin .shl (.int .u32 1) t70_46 fun t71_47 =>
                    wBin .add (tL_34.getD 0 undef) t71_47 fun t72_48 =>
                    wIdx t38_24 (tL_34.getD 2 undef) none 1 fun t75_49 =>
                    wLd t75_49 none H12 fun t76_50 =>
                    tj_36 [t72_48, t76_50] H12 nx12) (
                    tj_36 [(tL_34.getD 0 undef), (tL_34.getD 1 undef)] H12 nx12))) ∨ False) (fun tL_37 H10 nx10 =>
                wBin .sub (tL_34.getD 2 undef) (.int .i64 1) fun t56_51 =>
                tih_33 [(tL_37.getD 0 undef), (tL_37.getD 1 undef), t56_51] H10 nx10)) (
              wBuild [.int .i64 0, .int .u32 0, .int .i64 0] [(0, 1), (1, 1), (2, 1)] [(0, t48_30), (1, (tL_34.getD 0 undef)), (2, (tL_34.getD 1 undef))] fun t82_52 =>
              wIdx t35_21 t48_30 none 3 fun t83_53 =>
              wSt t83_53 t82_52 3 H9 fun H13 =>
              wLoop (fun tih_54 tL_55 H14 nx14 =>
                wFld t3_2 0 fun t85_56 =>
                wLd t85_56 none H14 fun t86_57 =>
                wBin .lss (tL_55.getD 0 undef) t86_57 fun t87_58 =>
                wIf t87_58 (
                  wLoop (fun tih_59 tL_60 H15 nx15 =>
                    wFld t3_2 0 fun t91_61 =>
                    wLd t91_61 none H15 fun t92_62 =>
                    wBin .lss (tL_60.getD 0 undef) t92_62 fun t93_63 =>
                    wIf t93_63 (
                      wJoin (fun tj_64 =>
                        wJoin (fun tj_66 =>
                          wBin .neq (tL_55.getD 0 undef) (tL_60.getD 0 undef) fun t98_68 =>
                          wGuard true t98_68 (
                            wCall Try.prog 29 [(tL_34.getD 0 undef), (tL_55.getD 0 undef)] H15 nx15 fun t102_69 H18 nx18 =>
                            wGuard true t102_69 (
                              wCall Try.prog 29 [(tL_34.getD 0 undef), (tL_60.getD 0 undef)] H18 nx18 fun t107_70 H19 nx19 =>
                              tj_66 [t107_70] H19 nx19) (
                              tj_66 [(.bool false)] H18 nx18)) (
                              tj_66 [(.bool false)] H15 nx15)) (fun tL_67 H17 nx17 =>
                          wIf (tL_67.getD 0 undef) (
                            forceN (nx17 + 11) fun nx20 =>
                            wIdx t20_6 (tL_55.getD 0 undef) none 1 fun t113_71 =>
                            wLd t113_71 none H17 fun t114_72 =>
                            wBin .shl (.int .u32 1) (tL_60.getD 0 undef) fun t116_73 =>
                            wBin .or t114_72 t116_73 fun t117_74 =>
                            wIdx t20_6 (tL_55.getD 0 undef) none 1 fun t118_75 =>
                            wSt t118_75 t117_74 1 H17 fun H21 =>
                            (((((True) ∧ ((wLd t113_71 none H17 fun tq_76 => tq_76 = t114_72) ∧ True)) ∧ True)) ∧ (
                              tj_64 [] H21 nx20)) ∨ False) (
                            tj_64 [] H17 nx17))) (fun tL_65 H16 nx16 =>
                        wBin .add (tL_60.getD 0 undef) (.int .i64 1) fun t95_77 =>
                        tih_59 [t95_77] H16 nx16)) (
                      wBin .add (tL_55.getD 0 undef) (.int .i64 1) fun t89_78 =>
                      tih_54 [t89_78] H15 nx15)) [(.int .i64 0)] H14 nx14) (
                  wBin .add (tL_26.getD 0 undef) (.int .i64 1) fun t44_79 =>
                  tih_25 [t44_79] H14 nx14)) [(.int .i64 0)] H13 nx9)) [(.int .u32 0), (.int .i64 (-1)), t51_32] H8 nx8) (
          forceV t35_21 fun tv_80 => k tv_80 H8 nx8)) [(.int .i64 0)] H7 nx7)) [(.int .i64 0)] H2 nx2
theorem eq16 (a0 a1 a2 : Value) (H : Heap) (nx : Nat) (k : EP) : wBody Try.prog 120 7 d16 [(.s 6, none)] [a0, a1, a2] H nx k = F16 a0 a1 a2 H nx k := by kernel_rfl
theorem spec16 {a0 a1 a2 : Value} {H : Heap} {nx : Nat} {k : EP} (h : F16 a0 a1 a2 H nx k) : Ans Try.prog 16 [a0, a1, a2] H nx k :=
  spec_of_body mixed namesOK cfn16 ok16 (by simp) ((eq16 a0 a1 a2 H nx k).symm ▸ h)

end Go.Proofs.Ytaieijjfabbfeaa

set_option linter.unusedSimpArgs false
set_option linter.unusedVariables false
set_option linter.unusedSectionVars false
namespace Go.Clo

theorem rowAt_off {p : Program} {fits : TypeId → Bool} {d : Nat} {e : TypeId} {count off n : Nat} (h : rowAt p fits d e count off n = true) : off ≤ count * p.cellsOf e := by
  cases d with
  | zero => simp [rowAt] at h
  | succ d =>
    unfold rowAt at h
    simp only at h
    split at h
    · cases h
    · rename_i hs
      have h1 := Nat.div_add_mod off (p.cellsOf e)
      have h3 : off % p.cellsOf e < p.cellsOf e := Nat.mod_lt _ (by omega)
      rw [Bool.or_eq_true] at h
      rcases h with h | h
      · simp only [Bool.and_eq_true, beq_iff_eq, decide_eq_true_eq] at h
        obtain ⟨⟨hr, hi⟩, _⟩ := h
        rw [hr, Nat.add_zero, Nat.mul_comm] at h1
        rw [← h1]
        exact Nat.mul_le_mul_right _ (by omega)
      · simp only [Bool.and_eq_true, decide_eq_true_eq] at h
        have h2 : (off / p.cellsOf e + 1) * p.cellsOf e ≤ count * p.cellsOf e := Nat.mul_le_mul_right _ (by omega)
        rw [Nat.add_mul, Nat.one_mul, Nat.mul_comm] at h2
        omega
theorem liesAt_off {p : Program} {e : TypeId} {count off : Nat} : ∀ {d : Nat} {u : TypeId} {n : Nat}, liesAt p d e count off u n = true → off ≤ count * p.cellsOf e
  | 0, _, _, h => by simp [liesAt] at h
  | d + 1, u, n, h => by
    unfold liesAt at h
    rw [Bool.or_eq_true] at h
    rcases h with h | h
    · exact rowAt_off h
    · split at h
      · exact liesAt_off h
      · cases h

/-- A slice's row is there, though it may have no elements. -/
def Has (H : Heap) (nx : Nat) (A : Option Addr) : Prop := A = none ∨ ∃ b o row, A = some ⟨b, o, none⟩ ∧ b < nx ∧ rowOf H b = some row
theorem Has.ext {H : Heap} {nx : Nat} {A : Option Addr} {H' : Heap} {nx' : Nat} (h : Has H nx A) (e : Ext H nx H' nx') : Has H' nx' A := by
  rcases h with h | ⟨b, o, row, h1, h2, h3⟩
  · exact .inl h
  · exact .inr ⟨b, o, row, h1, Nat.lt_of_lt_of_le h2 e.le, by rw [e.row h2]; exact h3⟩

section
variable {X : Type} {enc : TypeId × Value → X} {P : Program} {w : World} {base : Nat} {spare : Nat → Bool} {held : Bool}

/-- A slice whose elements' cells are plain; its row is there. -/
theorem In.sliceH {α : Type} {f : α → List Value} {Pr : α → Prop} {sz : Nat} {F : FM} {H : Heap} {nx : Nat} (hi : In w F H nx) {t e : TypeId} {A : Option Addr} {len cap b0 fuel : Nat} {r : Reach} {x : DataW X × List MemPlace}
    (ht : P.underlying t = some (.slice e)) (hsz : P.cellsOf e = sz) (hf : ∀ a, (f a).length = sz) (hok : Cell.ok P w r b0 t (.slice A len cap)) (htr : DataW.trod enc P w base spare held fuel t [.slice A len cap] = some x)
    (helem : ∀ n cs y, DataW.trod enc P w base spare held n e cs = some y → ∃ a, f a = cs ∧ Pr a) (hflat : ∀ a, (f a).all flat1 = true) :
    ∃ (F' : FM) (H' : Heap) (nx' : Nat) (A' : Option Addr) (xs : List α), In w F' H' nx' ∧ F.le F' ∧ VR F' (.slice A' len cap) (.slice A len cap) ∧ xs.length = len ∧ (∀ a ∈ xs, Pr a) ∧ Sl H' nx' A' (xs.flatMap f) ∧ Ext H nx H' nx' ∧ len ≤ maxLen ∧ Has H' nx' A' := by
  rcases DataW.trod_slice ht htr with ⟨h0, _⟩ | ⟨a, len', cap', elems, rest, n, _, h0, _, _, hl, hm, hlen, hel, _, _⟩
  · simp at h0
    obtain ⟨rfl, rfl, rfl⟩ := h0
    exact ⟨F, H, nx, none, [], hi, fun _ _ h => h, .sliceN _ _, rfl, by simp, fun i v h => by simp at h, Ext.refl _ _, Nat.zero_le _, .inl rfl⟩
  · simp at h0
    obtain ⟨rfl, rfl, rfl⟩ := h0
    have hspot : a.spot = none := by
      simp only [Cell.ok, ht] at hok
      exact hok.2.2.2.1
    obtain ⟨c', ety, m, hb, hoff⟩ : ∃ c' ety m, w.heap[a.block]? = some (.cells c' ety m) ∧ a.off ≤ c'.size := by
      simp only [Cell.ok, ht] at hok
      obtain ⟨_, _, _, _, row, cells, hsh, hlies⟩ := hok
      unfold World.shape? at hsh
      split at hsh
      · rename_i cc ee mm hcell
        cases hsh
        refine ⟨_, _, _, hcell, ?_⟩
        have h1 := liesAt_off hlies
        exact Nat.le_trans h1 (Nat.div_mul_le_self _ _)
      · cases hsh
    obtain ⟨xs, hx1, hx2⟩ : ∃ xs : List α, xs.length = len ∧ ∀ i y, xs[i]? = some y → (c'.toList.drop (a.off + i * sz)).take sz = f y ∧ Pr y := by
      refine exists_list fun i hil => ?_
      have h1 := hel i hil
      rw [List.getElem?_eq_getElem (by omega)] at h1
      obtain ⟨cs, h2, h3⟩ := Option.bind_eq_some_iff.mp h1
      obtain ⟨y, rfl, hy⟩ := helem _ _ _ h3
      rw [hsz] at h2
      exact ⟨y, cells_at hb hspot h2, hy⟩
    have hPr : ∀ y ∈ xs, Pr y := fun y hy => by
      obtain ⟨i, hil, rfl⟩ := List.getElem_of_mem hy
      exact (hx2 i _ (List.getElem?_eq_getElem hil)).2
    have hrows : (c'.toList.drop a.off).take (len * sz) = xs.flatMap f := by
      rw [← hx1]
      exact flat_rows hf xs _ fun i y hy => by rw [List.drop_drop]; exact (hx2 i y hy).1
    have hlenF := flat_length hf xs
    have hle : a.off + (xs.flatMap f).length ≤ c'.size := by
      have h1 := congrArg List.length hrows
      simp only [List.length_take, List.length_drop, Array.length_toList] at h1
      omega
    have hvl : VL F (xs.flatMap f) ((c'.toList.drop a.off).take (xs.flatMap f).length) := by
      rw [hlenF, hx1, hrows]
      refine flatL_refl F _ ?_
      rw [List.all_eq_true]
      intro v hv
      obtain ⟨y, _, hy⟩ := List.mem_flatMap.mp hv
      exact List.all_eq_true.mp (hflat y) v hy
    have hrow : rowOf (hs H nx (some (.rom (xs.flatMap f)))) nx = some (xs.flatMap f) := by rw [rowOf, getH_same]; rfl
    refine ⟨_, _, _, some ⟨nx, 0, none⟩, xs, hi.row hb hle hvl, putF_le hi _, ?_, hx1, hPr, fun i v h => ⟨nx, 0, xs.flatMap f, rfl, by omega, hrow, by rw [Nat.zero_add]; exact h⟩, (Ext.refl H nx).new _ (Nat.le_refl _) (by omega), by omega, .inr ⟨nx, 0, _, rfl, by omega, hrow⟩⟩
    have := VR.slice (F := putF F nx ⟨a.block, a.off, (xs.flatMap f).length, 0, c'.size⟩) (b := nx) (o := 0) (n := len) (c := cap) (c' := cap) (t := ⟨a.block, a.off, (xs.flatMap f).length, 0, c'.size⟩) (by simp [putF]) (.inl rfl)
    have ha : a = ⟨a.block, a.off + 0, none⟩ := by cases a; simp at hspot; subst hspot; rfl
    rw [ha]; exact this
end

/-- Nothing is appended. -/
theorem src_none {H : Heap} {nx size : Nat} {A : Option Addr} {cap : Nat} (h : Has H nx A) : Src H size (.slice A 0 cap) 0 [] := by
  refine ⟨rfl, fun k => ?_, by simp⟩
  rcases h with rfl | ⟨b, o, row, rfl, _, hrow⟩
  · rfl
  · unfold rowOf at hrow
    cases hg : getH H b with
    | none => rw [hg] at hrow; cases hrow
    | some blk =>
      rw [hg] at hrow
      show rowK H ⟨b, o, none⟩ (0 * size) False k = k []
      unfold rowK
      simp only
      rw [getB_eq, hg, Nat.zero_mul]
      cases blk with
      | cells c sl => rfl
      | map es c => simp [Blk.row] at hrow
      | rom c => rfl
theorem src_any {H : Heap} {nx size : Nat} {A : Option Addr} {m cap : Nat} {l : List Value} (h : Sl H nx A l) (h0 : Has H nx A) (hl : l.length = m * size) (hsz : 0 < size) : Src H size (.slice A m cap) m l := by
  cases m with
  | zero =>
    have : l = [] := by simpa using hl
    subst this
    exact src_none h0
  | succ m => exact src_sl h hl (Nat.mul_pos (by omega) hsz)
theorem wApp_zero {H : Heap} {nx size bytes : Nat} {x : Value} (hx : Src H size x 0 []) (hb : bytes ≤ 1000) (k : EP) : wApp (.slice none 0 0) x size bytes H nx k = k (.slice none 0 0) H nx := by
  unfold wApp appK
  rw [hx.len]
  dsimp only
  have h1 : (2 * (0 + 0) + 1000) * bytes ≤ 281474976710656 := by omega
  rw [forceN_eq, bltrue h1, bltrue (show 0 + 0 ≤ 1000000000 by omega)]
  simp only [Bool.and_self, cond_true]
  rw [hx.first]
  rfl
theorem wCopy_row {H : Heap} {nx b n cap size m sl : Nat} {row l : List Value} {x : Value} (hg : getH H b = some (.cells row sl)) (hx : Src H size x m l) (hm : m ≤ n) (ho : oneCells l = true) (hl : l.length ≤ row.length) (k : EP) :
    wCopy (.slice (some ⟨b, 0, none⟩) n cap) x size H nx k = k (.int .i64 (m : Int)) (hs H b (some (.cells (putL row 0 l) sl))) nx := by
  unfold wCopy
  rw [hx.len]
  dsimp only
  have e : Nat.min m n = m := Nat.min_eq_left hm
  rw [forceN_eq, e, hx.first, ho]
  simp only [cond_true]
  rw [putCK_eq, hg]
  simp only [stP, Nat.zero_add, hl, true_and]
  rfl

/-! Arrays of numbers in memory. -/
theorem putL_get {c : List Value} {o : Nat} {x : Value} (h : o < c.length) : putL c o [x] = c.set o x := by
  unfold putL
  rw [List.set_eq_take_append_cons_drop, if_pos h]
  simp
theorem set_u32s {l : List Nat} {i x : Nat} : (u32s l).set i (.int .u32 (x : Int)) = u32s (l.set i x) := by simp [u32s, List.map_set]
theorem set_i64s {l : List Int} {i : Nat} {x : Int} : (i64s l).set i (.int .i64 x) = i64s (l.set i x) := by simp [i64s, List.map_set]
theorem putL_u32s {l : List Nat} {i x : Nat} (h : i < l.length) : putL (u32s l) i [.int .u32 (x : Int)] = u32s (l.set i x) := by rw [putL_get (by rw [u32s_length]; exact h), set_u32s]
theorem putL_i64s {l : List Int} {i : Nat} {x : Int} (h : i < l.length) : putL (i64s l) i [.int .i64 x] = i64s (l.set i x) := by rw [putL_get (by rw [i64s_length]; exact h), set_i64s]
end Go.Clo

set_option linter.unusedSimpArgs false
set_option linter.unusedVariables false
set_option linter.unusedSectionVars false
namespace Go.Proofs.Ytaieijjfabbfeaa
open Go.Clo

theorem wBin_add32 {a b : Nat} {k : VP} (h : a + b < 4294967296) : wBin .add (.int .u32 (a : Int)) (.int .u32 (b : Int)) k = k (.int .u32 ((a + b : Nat) : Int)) := by
  rw [wBin_add, ← Int.natCast_add, u32_wrap h]

/-- A permutation of the numbers from f to n - 1. -/
def permOK (l : List Int) (f n : Nat) : Prop := l.length + f = n ∧ (∀ x ∈ l, (f : Int) ≤ x ∧ x < (n : Int)) ∧ l.Nodup

theorem take_next {α : Type} {l : List α} {i : Nat} {x : α} (h : l[i]? = some x) : l.take (i + 1) = l.take i ++ [x] := by
  rw [List.take_add_one, h]; rfl
theorem nodup_snoc {α : Type} {l : List α} {x : α} (h : l.Nodup) (hx : x ∉ l) : (l ++ [x]).Nodup := by
  rw [List.nodup_append]
  exact ⟨h, by simp, fun a ha b hb => by simp at hb; subst hb; intro e; subst e; exact hx ha⟩

theorem perm14 {f n : Nat} (hn : n ≤ 32) (hf : f ≤ n) (A : Option Addr) (l : List Int) (cap : Nat) (H : Heap) (nx : Nat) (hS : Sl H nx A (i64s l)) (hl : l.length ≤ 40) :
    Ans Try.prog 14 [.slice A l.length cap, .int .i64 (f : Int), .int .i64 (n : Int)] H nx fun v H' nx' => (∃ c : Bool, v = .bool c ∧ (c = true ↔ permOK l f n)) ∧ Ext H nx H' nx' := by
  refine spec14 ?_
  unfold F14
  simp (disch := first | omega | assumption | exact shr_lt (by assumption) | exact ndiff32 (by assumption) | exact below_lt (by omega) | fail) only [wBin_neq, wIf_bool, wLen_slice, forceV_eq, forceN_eq, and_true, or_false, wBin_sub64]
  by_cases hlen : l.length + f = n
  case neg =>
    have d1 : decide ((l.length : Int) ≠ (n : Int) - (f : Int)) = true := by simp; omega
    simp (disch := first | omega | assumption | exact shr_lt (by assumption) | exact ndiff32 (by assumption) | exact below_lt (by omega) | fail) only [if_true, d1]
    exact ⟨⟨false, rfl, by simp; exact fun h => hlen h.1⟩, Ext.refl _ _⟩
  have d1 : decide ((l.length : Int) ≠ (n : Int) - (f : Int)) = false := by simp; omega
  simp (disch := first | omega | assumption | exact shr_lt (by assumption) | exact ndiff32 (by assumption) | exact below_lt (by omega) | fail) only [if_false, Bool.false_eq_true, d1]
  refine wLoop_rule (m := l.length) (fun m L H' nx' => ∃ i : Nat, m + i = l.length ∧ L = [.int .i64 (i : Int)] ∧ (∀ x ∈ l.take i, (f : Int) ≤ x ∧ x < (n : Int)) ∧ (l.take i).Nodup ∧ H = H' ∧ nx ≤ nx') ?_ ⟨0, rfl, rfl, by simp, by simp, rfl, Nat.le_refl _⟩
  rintro m ih L _ nx1 ⟨i, hm, rfl, hin, hnd, rfl, hle⟩ hih
  simp (disch := first | omega | assumption | exact shr_lt (by assumption) | exact ndiff32 (by assumption) | exact below_lt (by omega) | fail) only [List.getD_cons_zero, wBin_lss, wIf_bool, wBin_add64]
  by_cases hi : i < l.length
  case neg =>
    have hi' : ¬ (i : Int) < (l.length : Int) := by omega
    simp (disch := first | omega | assumption | exact shr_lt (by assumption) | exact ndiff32 (by assumption) | exact below_lt (by omega) | fail) only [decide_false, if_false, Bool.false_eq_true, hi']
    rw [take_all hi] at hin hnd
    exact ⟨⟨true, rfl, by simp; exact ⟨hlen, hin, hnd⟩⟩, Ext.self hle⟩
  have hi' : (i : Int) < (l.length : Int) := by omega
  obtain ⟨x, hx⟩ : ∃ x, l[i]? = some x := ⟨_, List.getElem?_eq_getElem hi⟩
  obtain ⟨B, o, row, rfl, hBn, hrow, hget⟩ := hS.open (i := i) (by rw [i64s_length]; omega)
  have g0 := hget _ _ (i64s_get hx)
  have bad : ¬ ((f : Int) ≤ x ∧ x < (n : Int)) → ¬ permOK l f n := fun h1 h2 => h1 (h2.2.1 x (List.mem_of_getElem? hx))
  simp (disch := first | omega | assumption | exact shr_lt (by assumption) | exact ndiff32 (by assumption) | exact below_lt (by omega) | fail) only [List.getD_cons_zero, wBin_lss, wBin_geq, wIf_bool, wGuard_false, wLd_none, cellP_one, Option.elim_some, decide_true, if_true, wIdx_slice, Int.toNat_natCast, Nat.mul_one, hi', wJoin_eq, ldP_row hrow, g0]
  by_cases h1 : x < (f : Int)
  · simp (disch := first | omega | assumption | exact shr_lt (by assumption) | exact ndiff32 (by assumption) | exact below_lt (by omega) | fail) only [decide_true, if_true, h1]
    exact ⟨⟨false, rfl, by simp; exact bad (by omega)⟩, Ext.self hle⟩
  by_cases h2 : x ≥ (n : Int)
  · simp (disch := first | omega | assumption | exact shr_lt (by assumption) | exact ndiff32 (by assumption) | exact below_lt (by omega) | fail) only [decide_true, decide_false, if_true, if_false, Bool.false_eq_true, h1, h2]
    exact ⟨⟨false, rfl, by simp; exact bad (by omega)⟩, Ext.self hle⟩
  simp (disch := first | omega | assumption | exact shr_lt (by assumption) | exact ndiff32 (by assumption) | exact below_lt (by omega) | fail) only [decide_false, if_false, Bool.false_eq_true, h1, h2]
  refine wLoop_rule (m := i) (fun m L H' nx' => ∃ k : Nat, m + k = i ∧ L = [.int .i64 (k : Int)] ∧ (∀ j, j < k → l[j]? ≠ some x) ∧ H = H' ∧ nx ≤ nx') ?_ ⟨0, by omega, rfl, fun j h => by omega, rfl, hle⟩
  rintro m2 ih2 L2 _ nx2 ⟨k, hm2, rfl, hne, rfl, hle2⟩ hih2
  simp (disch := first | omega | assumption | exact shr_lt (by assumption) | exact ndiff32 (by assumption) | exact below_lt (by omega) | fail) only [List.getD_cons_zero, wBin_lss, wIf_bool, wLd_none, wBin_add64, wIdx_slice, Int.toNat_natCast, Nat.mul_one]
  by_cases hk : k < i
  · have hk' : (k : Int) < (i : Int) := by omega
    obtain ⟨y, hy⟩ : ∃ y, l[k]? = some y := ⟨_, List.getElem?_eq_getElem (by omega)⟩
    have g1 := hget _ _ (i64s_get hy)
    by_cases hyx : y = x
    · have d2 : decide (y = x) = true := by simp [hyx]
      simp (disch := first | omega | assumption | exact shr_lt (by assumption) | exact ndiff32 (by assumption) | exact below_lt (by omega) | fail) only [wBin_eql, wIf_bool, cellP_one, Option.elim_some, decide_true, if_true, true_and, hk', ldP_row hrow, g0, g1, d2]
      refine ⟨⟨false, rfl, ?_⟩, Ext.self (by omega)⟩
      simp
      intro hp
      have hne2 := (List.pairwise_iff_getElem.mp hp.2.2) k i (by omega) hi hk
      exact hne2 (by rw [(List.getElem?_eq_some_iff.mp hy).2, (List.getElem?_eq_some_iff.mp hx).2, hyx])
    · have d2 : decide (y = x) = false := by simp [hyx]
      simp (disch := first | omega | assumption | exact shr_lt (by assumption) | exact ndiff32 (by assumption) | exact below_lt (by omega) | fail) only [wBin_eql, wIf_bool, cellP_one, Option.elim_some, decide_true, if_true, if_false, Bool.false_eq_true, true_and, hk', ldP_row hrow, g0, g1, d2]
      refine hih2 (m2 - 1) _ _ _ (by omega) ⟨k + 1, by omega, by simp, fun j hj => ?_, rfl, by omega⟩
      by_cases hjk : j = k
      · subst hjk; rw [hy]; simp [hyx]
      · exact hne j (by omega)
  · have hk' : ¬ (k : Int) < (i : Int) := by omega
    simp (disch := first | omega | assumption | exact shr_lt (by assumption) | exact ndiff32 (by assumption) | exact below_lt (by omega) | fail) only [decide_false, if_false, Bool.false_eq_true, hk']
    refine hih (m - 1) _ _ _ (by omega) ⟨i + 1, by omega, by simp, ?_, ?_, rfl, hle2⟩
    · rw [take_next hx]
      intro z hz
      simp at hz
      rcases hz with hz | rfl
      · exact hin z (by simpa using hz)
      · omega
    · rw [take_next hx]
      refine nodup_snoc hnd fun hmem => ?_
      obtain ⟨j, hj, hj2⟩ := List.getElem?_of_mem hmem |>.imp fun j h => (⟨by
        have := (List.getElem?_eq_some_iff.mp h).1; simp at this; omega, h⟩ : j < i ∧ _)
      rw [List.getElem?_take, if_pos hj] at hj2
      exact hne j (by omega) hj2

/-- Two vertices share an edge. -/
def adj (es : List Nat) (a b : Nat) : Bool := decide (a ≠ b) && es.any fun e => e.testBit a && e.testBit b

theorem adj51 (N : Int) {a b : Nat} (A : Option Addr) (es : List Nat) (cap : Nat) (H : Heap) (nx : Nat) (hS : Sl H nx A (u32s es)) (hsm : Small es) (hle : es.length ≤ 64) :
    Ans Try.prog 51 [gv N A es.length cap, .int .i64 (a : Int), .int .i64 (b : Int)] H nx fun v H' nx' => v = .bool (adj es a b) ∧ Ext H nx H' nx' := by
  refine spec51 ?_
  unfold F51
  have hE1 : Ext H nx (hs H nx (some (.cells [.int .i64 N, .slice A es.length cap] 0))) (nx + 1) := (Ext.refl H nx).new _ (Nat.le_refl _) (by omega)
  simp (disch := first | omega | assumption | exact shr_lt (by assumption) | exact ndiff32 (by assumption) | exact below_lt (by omega) | fail) only [wBin_neq, wGuard_true, wFld_eq, wNew_eq, dBox_agg, oneCells, wLd_none, forceV_eq, Yld.val, if_true, Nat.zero_add]
  refine wLoop_rule (m := es.length) (fun m L H' nx' => ∃ i : Nat, m + i = es.length ∧ L = [.int .i64 (i : Int)] ∧ (∀ e ∈ es.take i, ¬ (a ≠ b ∧ e.testBit a = true ∧ e.testBit b = true)) ∧ hs H nx (some (.cells [.int .i64 N, .slice A es.length cap] 0)) = H' ∧ nx + 1 = nx') ?_ ⟨0, rfl, rfl, by simp, rfl, rfl⟩
  rintro m ih L _ _ ⟨i, hm, rfl, hin, rfl, rfl⟩ hih
  simp (disch := first | omega | assumption | exact shr_lt (by assumption) | exact ndiff32 (by assumption) | exact below_lt (by omega) | fail) only [List.getD_cons_zero, wBin_lss, wIf_bool, wLen_slice, ldP_cells, cellP_one, getH_same, Option.elim_some, List.getElem?_cons_zero, List.getElem?_cons_succ, wBin_add64]
  by_cases hi : i < es.length
  case neg =>
    have hi' : ¬ (i : Int) < (es.length : Int) := by omega
    simp (disch := first | omega | assumption | exact shr_lt (by assumption) | exact ndiff32 (by assumption) | exact below_lt (by omega) | fail) only [decide_false, if_false, Bool.false_eq_true, hi']
    rw [take_all hi] at hin
    refine ⟨?_, hE1⟩
    have : adj es a b = false := by
      rw [Bool.eq_false_iff]
      intro h
      simp only [adj, Bool.and_eq_true, decide_eq_true_eq, List.any_eq_true] at h
      obtain ⟨h1, e, he, h2, h3⟩ := h
      exact hin e he ⟨h1, h2, h3⟩
    rw [this]
  have hi' : (i : Int) < (es.length : Int) := by omega
  obtain ⟨e, he⟩ : ∃ e, es[i]? = some e := ⟨_, List.getElem?_eq_getElem hi⟩
  obtain ⟨A, oA, rowA, rfl, hAn, hrowA, hgetA⟩ := (hS.ext hE1).open (i := i) (by rw [u32s_length]; omega)
  have he32 := hsm.get he
  have g0 := hgetA _ _ (u32s_get he)
  have next : ¬ (a ≠ b ∧ e.testBit a = true ∧ e.testBit b = true) → ∀ x ∈ es.take (i + 1), ¬ (a ≠ b ∧ x.testBit a = true ∧ x.testBit b = true) := by
    intro h x hx
    rw [take_next he] at hx
    simp only [List.mem_append, List.mem_singleton] at hx
    rcases hx with hx | rfl
    · exact hin x hx
    · exact h
  by_cases hab : a = b
  · have d1 : decide ((a : Int) ≠ (b : Int)) = false := by simp [hab]
    simp (disch := first | omega | assumption | exact shr_lt (by assumption) | exact ndiff32 (by assumption) | exact below_lt (by omega) | fail) only [List.getD_cons_zero, wIf_bool, wLd_none, decide_true, if_true, if_false, Bool.false_eq_true, wIdx_slice, Int.toNat_natCast, Nat.mul_one, hi', wJoin_eq, d1]
    exact hih (m - 1) _ _ _ (by omega) ⟨i + 1, by omega, by simp, next (fun h => h.1 hab), rfl, rfl⟩
  have d1 : decide ((a : Int) ≠ (b : Int)) = true := by simp; omega
  simp (disch := first | omega | assumption | exact shr_lt (by assumption) | exact ndiff32 (by assumption) | exact below_lt (by omega) | fail) only [List.getD_cons_zero, wIf_bool, wLd_none, cellP_one, Option.elim_some, decide_true, if_true, if_false, Bool.false_eq_true, wIdx_slice, Int.toNat_natCast, Nat.mul_one, hi', wJoin_eq, d1, ldP_row hrowA, g0]
  refine wCall_rule (has29 he32 _ _) ?_
  rintro _ _ _ ⟨rfl, rfl, rfl⟩
  cases ha : e.testBit a with
  | false =>
    simp (disch := first | omega | assumption | exact shr_lt (by assumption) | exact ndiff32 (by assumption) | exact below_lt (by omega) | fail) only [wGuard_true, wLd_none, ldP_cells, cellP_one, getH_same, Option.elim_some, List.getElem?_cons_zero, List.getElem?_cons_succ, if_false, Bool.false_eq_true, wIdx_slice, Int.toNat_natCast, Nat.mul_one]
    exact hih (m - 1) _ _ _ (by omega) ⟨i + 1, by omega, by simp, next (fun h => by rw [ha] at h; exact absurd h.2.1 (by simp)), rfl, rfl⟩
  | true =>
    simp (disch := first | omega | assumption | exact shr_lt (by assumption) | exact ndiff32 (by assumption) | exact below_lt (by omega) | fail) only [wGuard_true, wLd_none, ldP_cells, cellP_one, getH_same, Option.elim_some, List.getElem?_cons_zero, List.getElem?_cons_succ, if_true, wIdx_slice, Int.toNat_natCast, Nat.mul_one, ldP_row hrowA, g0]
    refine wCall_rule (has29 he32 _ _) ?_
    rintro _ _ _ ⟨rfl, rfl, rfl⟩
    cases hb : e.testBit b with
    | false =>
      simp (disch := first | omega | assumption | exact shr_lt (by assumption) | exact ndiff32 (by assumption) | exact below_lt (by omega) | fail) only [wIf_bool, if_false, Bool.false_eq_true]
      exact hih (m - 1) _ _ _ (by omega) ⟨i + 1, by omega, by simp, next (fun h => by rw [hb] at h; exact absurd h.2.2 (by simp)), rfl, rfl⟩
    | true =>
      simp (disch := first | omega | assumption | exact shr_lt (by assumption) | exact ndiff32 (by assumption) | exact below_lt (by omega) | fail) only [wIf_bool, if_true]
      refine ⟨?_, hE1⟩
      have : adj es a b = true := by
        simp only [adj, Bool.and_eq_true, decide_eq_true_eq, List.any_eq_true]
        exact ⟨hab, e, List.mem_of_getElem? he, ha, hb⟩
      rw [this]

theorem adj_self (es : List Nat) (a : Nat) : adj es a a = false := by simp [adj]
theorem adj_symm (es : List Nat) (a b : Nat) : adj es a b = adj es b a := by
  unfold adj
  congr 1
  · simp [eq_comm]
  · congr 1; funext e; rw [Bool.and_comm]

/-- The set of the numbers below n with a property. -/
def maskOf (p : Nat → Bool) : Nat → Nat
  | 0 => 0
  | n + 1 => if p n then maskOf p n + 2 ^ n else maskOf p n
theorem maskOf_lt (p : Nat → Bool) : ∀ n, maskOf p n < 2 ^ n
  | 0 => by simp [maskOf]
  | n + 1 => by
    have := maskOf_lt p n
    have h2 : 2 ^ (n + 1) = 2 ^ n + 2 ^ n := by rw [Nat.pow_succ]; omega
    unfold maskOf
    split <;> omega
theorem maskOf_bit (p : Nat → Bool) : ∀ n i, (maskOf p n).testBit i = (decide (i < n) && p i)
  | 0, i => by simp [maskOf]
  | n + 1, i => by
    have hlt := maskOf_lt p n
    have ih := maskOf_bit p n i
    unfold maskOf
    by_cases hp : p n = true
    · rw [if_pos hp, Nat.add_comm]
      by_cases hi : i = n
      · subst hi
        rw [Nat.testBit_two_pow_add_eq, Nat.testBit_lt_two_pow hlt]; simp [hp]
      · rcases Nat.lt_or_gt_of_ne hi with h | h
        · rw [Nat.testBit_two_pow_add_gt h, ih]; simp [h, Nat.lt_succ_of_lt h]
        · have h3 : 2 ^ n + maskOf p n < 2 ^ i := by
            have : 2 ^ (n + 1) ≤ 2 ^ i := Nat.pow_le_pow_right (by omega) (by omega)
            have h2 : 2 ^ (n + 1) = 2 ^ n + 2 ^ n := by rw [Nat.pow_succ]; omega
            omega
          rw [Nat.testBit_lt_two_pow h3]
          have : ¬ i < n + 1 := by omega
          simp [this]
    · rw [if_neg hp, ih]
      by_cases hi : i = n
      · subst hi; simp [hp]
      · have : decide (i < n + 1) = decide (i < n) := by congr 1; apply propext; omega
        rw [this]

theorem near34 {n v : Nat} (hn : n ≤ 32) (A : Option Addr) (es : List Nat) (cap : Nat) (H : Heap) (nx : Nat) (hS : Sl H nx A (u32s es)) (hsm : Small es) (hle : es.length ≤ 64) :
    Ans Try.prog 34 [gv n A es.length cap, .int .i64 (v : Int)] H nx fun r H' nx' => r = .int .u32 ((maskOf (adj es v) n : Nat) : Int) ∧ Ext H nx H' nx' := by
  refine spec34 ?_
  unfold F34
  have hE1 : Ext H nx (hs H nx (some (.cells [.int .i64 n, .slice A es.length cap] 0))) (nx + 1) := (Ext.refl H nx).new _ (Nat.le_refl _) (by omega)
  simp (disch := first | omega | assumption | exact shr_lt (by assumption) | exact ndiff32 (by assumption) | exact below_lt (by omega) | fail) only [wFld_eq, wNew_eq, dBox_agg, oneCells, wLd_none, wLd_2, forceV_eq, Yld.val, if_true, Nat.add_zero]
  refine wLoop_rule (m := n) (fun m L H' nx' => ∃ i : Nat, m + i = n ∧ L = [.int .u32 ((maskOf (adj es v) i : Nat) : Int), .int .i64 (i : Int)] ∧ Ext (hs H nx (some (.cells [.int .i64 n, .slice A es.length cap] 0))) (nx + 1) H' nx') ?_ ⟨0, rfl, rfl, Ext.refl _ _⟩
  rintro m ih L H2 nx2 ⟨i, hm, rfl, hE2⟩ hih
  have hg2 := hE2.get nx (by omega)
  rw [getH_same] at hg2
  simp (disch := first | omega | assumption | exact shr_lt (by assumption) | exact ndiff32 (by assumption) | exact below_lt (by omega) | fail) only [List.getD_cons_zero, List.getD_cons_succ, wBin_lss, wIf_bool, ldP_cells, cellP_one, Option.elim_some, List.getElem?_cons_zero, wBin_add64, hg2]
  by_cases hi : i < n
  case neg =>
    have hi' : ¬ (i : Int) < (n : Int) := by omega
    have : i = n := by omega
    subst this
    simp (disch := first | omega | assumption | exact shr_lt (by assumption) | exact ndiff32 (by assumption) | exact below_lt (by omega) | fail) only [decide_false, if_false, Bool.false_eq_true, true_and, hi']
    exact hE1.trans hE2
  have hi' : (i : Int) < (n : Int) := by omega
  simp (disch := first | omega | assumption | exact shr_lt (by assumption) | exact ndiff32 (by assumption) | exact below_lt (by omega) | fail) only [List.getD_cons_zero, decide_true, if_true, wBin_shl32, hi', wJoin_eq, cellP_lit2]
  refine wCall_rule (adj51 n (a := v) (b := i) A es cap _ _ (hS.ext (hE1.trans hE2)) hsm hle) ?_
  rintro _ H3 nx3 ⟨rfl, hE3⟩
  have hlt := maskOf_lt (adj es v) i
  have hp : 2 ^ i < 4294967296 := pow32 (by omega)
  have hsum : maskOf (adj es v) i + 2 ^ i < 4294967296 := by
    have h1 : 2 ^ (i + 1) ≤ 2 ^ 32 := Nat.pow_le_pow_right (by omega) (by omega)
    have h2 : 2 ^ (i + 1) = 2 ^ i + 2 ^ i := by rw [Nat.pow_succ]; omega
    have h3 : (2 : Nat) ^ 32 = 4294967296 := by decide
    omega
  cases hb : adj es v i with
  | false =>
    simp (disch := first | omega | assumption | exact shr_lt (by assumption) | exact ndiff32 (by assumption) | exact below_lt (by omega) | fail) only [wIf_bool, if_false, Bool.false_eq_true]
    refine hih (m - 1) _ _ _ (by omega) ⟨i + 1, by omega, by simp [maskOf, hb], hE2.trans hE3⟩
  | true =>
    simp (disch := first | omega | assumption | exact shr_lt (by assumption) | exact ndiff32 (by assumption) | exact below_lt (by omega) | fail) only [wIf_bool, if_true, wBin_add32]
    refine hih (m - 1) _ _ _ (by omega) ⟨i + 1, by omega, by simp [maskOf, hb], hE2.trans hE3⟩
end Go.Proofs.Ytaieijjfabbfeaa

set_option linter.unusedSimpArgs false
set_option linter.unusedVariables false
set_option linter.unusedSectionVars false
namespace Go.Proofs.Ytaieijjfabbfeaa
open Go.Clo

/-- The numbers from f - 1 down to f - i. -/
def downTo (f : Nat) : Nat → List Int
  | 0 => []
  | i + 1 => downTo f i ++ [((f : Int) - 1 - i)]
theorem downTo_length (f : Nat) : ∀ i, (downTo f i).length = i
  | 0 => rfl
  | i + 1 => by simp [downTo, downTo_length f i]
theorem i64s_append (a b : List Int) : i64s (a ++ b) = i64s a ++ i64s b := by simp [i64s]
theorem oneCells_i64s : ∀ l : List Int, oneCells (i64s l) = true
  | [] => rfl
  | x :: l => oneCells_i64s l

theorem order35 {f : Nat} (hf : f ≤ 32) (A : Option Addr) (l : List Int) (cap : Nat) (H : Heap) (nx : Nat) (hS : Sl H nx A (i64s l)) (hA : Has H nx A) (hl : l.length ≤ 40) :
    Ans Try.prog 35 [.int .i64 (f : Int), .slice A l.length cap] H nx fun r H' nx' => Acc nx H' nx' 1 r (l.length + f) (i64s (l ++ downTo f f)) ∧ Ext H nx H' nx' := by
  refine spec35 ?_
  unfold F35
  have hsrc : Src H 1 (.slice A l.length cap) l.length (i64s l) := src_any hS hA (by rw [i64s_length]; omega) (by omega)
  have rest : ∀ v H1 nx1, Acc nx H1 nx1 1 v l.length (i64s l) → Ext H nx H1 nx1 → wBin .sub (.int .i64 (f : Int)) (.int .i64 1) (fun t11_2 =>
      wLoop (fun tih_3 tL_4 H2 nx2 =>
        wBin .geq (tL_4.getD 1 undef) (.int .i64 0) fun t13_5 =>
        wIf t13_5 (
          dBsl 1 1 [.int .i64 0] [(0, (tL_4.getD 1 undef))] fun tc_6 => wNew (.cells tc_6 0) (.slice 1 1) H2 nx2 fun t18_7 H3 nx3 =>
          wApp (tL_4.getD 0 undef) t18_7 1 8 H3 nx3 fun t19_8 H4 nx4 =>
          wBin .sub (tL_4.getD 1 undef) (.int .i64 1) fun t15_9 =>
          tih_3 [t19_8, t15_9] H4 nx4) (
          forceV (tL_4.getD 0 undef) fun tv_10 => (fun r H' nx' => Acc nx H' nx' 1 r (l.length + f) (i64s (l ++ downTo f f)) ∧ Ext H nx H' nx') tv_10 H2 nx2)) [v, t11_2] H1 nx1) := by
    intro v H1 nx1 hA1 hE1
    simp (disch := first | omega | assumption | exact shr_lt (by assumption) | exact ndiff32 (by assumption) | exact below_lt (by omega) | fail) only [wNew_eq, forceV_eq, Yld.val, wBin_sub64]
    refine wLoop_rule (m := f) (fun m L H' nx' => ∃ (i : Nat) (u : Value), m + i = f ∧ L = [u, .int .i64 ((f : Int) - 1 - i)] ∧ Acc nx H' nx' 1 u (l.length + i) (i64s (l ++ downTo f i)) ∧ Ext H nx H' nx') ?_ ⟨0, v, rfl, by simp, by simpa [downTo] using hA1, hE1⟩
    rintro m ih L H2 nx2 ⟨i, u, hm, rfl, hA2, hE2⟩ hih
    have hle := hE2.le
    simp (disch := first | omega | assumption | exact shr_lt (by assumption) | exact ndiff32 (by assumption) | exact below_lt (by omega) | fail) only [List.getD_cons_zero, List.getD_cons_succ, wBin_geq, wIf_bool, wBin_sub64]
    by_cases hi : i < f
    · have hi' : (f : Int) - 1 - i ≥ 0 := by omega
      have hbs : ∀ (x : Int) k, dBsl 1 1 [.int .i64 0] [(0, .int .i64 x)] k = k [.int .i64 x] := fun x k => rfl
      simp (disch := first | omega | assumption | exact shr_lt (by assumption) | exact ndiff32 (by assumption) | exact below_lt (by omega) | fail) only [decide_true, if_true, hi', hbs]
      have hE3 : Ext H2 nx2 (hs H2 nx2 (some (.cells [.int .i64 ((f : Int) - 1 - i)] 0))) (nx2 + 1) := (Ext.refl _ _).new _ (Nat.le_refl _) (by omega)
      refine wApp_acc (H0 := H) (l := [.int .i64 ((f : Int) - 1 - i)]) (m := 1) (by omega) (hA2.ext hE3) (src_new (getH_same _ _ _) rfl (by omega)) (by omega) rfl (by omega) (by omega) (hE2.trans hE3) (by omega) ?_
      intro v' H' hA' hE' _
      refine hih (m - 1) _ _ _ (by omega) ⟨i + 1, v', by omega, by simp; omega, ?_, hE'⟩
      have e : i64s (l ++ downTo f (i + 1)) = i64s (l ++ downTo f i) ++ [.int .i64 ((f : Int) - 1 - i)] := by simp [downTo, i64s]
      rw [e]; exact hA'
    · have hi' : ¬ (f : Int) - 1 - i ≥ 0 := by omega
      have : i = f := by omega
      subst this
      simp (disch := first | omega | assumption | exact shr_lt (by assumption) | exact ndiff32 (by assumption) | exact below_lt (by omega) | fail) only [decide_false, if_false, Bool.false_eq_true, hi']
      exact ⟨hA2, hE2⟩
  by_cases h0 : l.length = 0
  · have : l = [] := List.length_eq_zero_iff.mp h0
    subst this
    rw [wApp_zero hsrc (by omega)]
    exact rest _ _ _ (Acc.nil _ _ _ _) (Ext.refl _ _)
  · refine wApp_acc (H0 := H) (by omega) (Acc.nil nx H nx 1) hsrc (by omega) (oneCells_i64s l) (by omega) (by omega) (Ext.refl _ _) (Nat.le_refl _) ?_
    intro v' H' hA' hE' _
    rw [Nat.zero_add, List.nil_append] at hA'
    exact rest _ _ _ hA' hE'

theorem eqs_same (b : Bag) (k : VP) : wVf (.eqs true [⟨0, 0⟩, ⟨1, 0⟩, ⟨2, 0⟩]) [bagV b, bagV b] k = k (.bool false) := by
  have e : VF.ev (.eqs true [⟨0, 0⟩, ⟨1, 0⟩, ⟨2, 0⟩]) [bagV b, bagV b] = some (.bool false) := by
    simp [VF.ev, bagC, eqCells, nth, eqCell, eqK]
  unfold wVf
  rw [e, optK_eq]; rfl

theorem equal15 (A B : Option Addr) (bs : List Bag) (capA capB : Nat) (H : Heap) (nx : Nat) (hA : Sl H nx A (bagsC bs)) (hB : Sl H nx B (bagsC bs)) (hl : bs.length ≤ 40) :
    Ans Try.prog 15 [.slice A bs.length capA, .slice B bs.length capB] H nx fun r H' nx' => r = .bool true ∧ Ext H nx H' nx' := by
  refine spec15 ?_
  unfold F15
  have d0 : decide ((bs.length : Int) ≠ (bs.length : Int)) = false := by simp
  simp (disch := first | omega | assumption | exact shr_lt (by assumption) | exact ndiff32 (by assumption) | exact below_lt (by omega) | fail) only [wBin_neq, wIf_bool, wLen_slice, forceV_eq, forceN_eq, if_false, Bool.false_eq_true, and_true, true_and, or_false, d0]
  refine wLoop_rule (m := bs.length) (fun m L H' nx' => ∃ i : Nat, m + i = bs.length ∧ L = [.int .i64 (i : Int)] ∧ H = H' ∧ nx ≤ nx') ?_ ⟨0, rfl, rfl, rfl, Nat.le_refl _⟩
  rintro m ih L _ nx1 ⟨i, hm, rfl, rfl, hle⟩ hih
  simp (disch := first | omega | assumption | exact shr_lt (by assumption) | exact ndiff32 (by assumption) | exact below_lt (by omega) | fail) only [List.getD_cons_zero, wBin_lss, wIf_bool, wBin_add64]
  by_cases hi : i < bs.length
  · have hi' : (i : Int) < (bs.length : Int) := by omega
    obtain ⟨b, hb⟩ : ∃ b, bs[i]? = some b := ⟨_, List.getElem?_eq_getElem hi⟩
    obtain ⟨A, o, row, rfl, _, hrow, hget⟩ := hA.open (i := i * 3) (by rw [bagsC_length]; omega)
    have hg := fun j v hv => hget _ v (bagsC_get hb j v hv)
    have g0 : row[o + i * 3]? = some (.int .i64 b.var) := hg 0 _ rfl
    have g1 : row[o + i * 3 + 1]? = some (.int .u32 (b.key : Int)) := hg 1 _ rfl
    have g2 : row[o + i * 3 + 2]? = some (.int .i64 b.par) := hg 2 _ rfl
    obtain ⟨B, o2, row2, rfl, _, hrow2, hget2⟩ := hB.open (i := i * 3) (by rw [bagsC_length]; omega)
    have hg2 := fun j v hv => hget2 _ v (bagsC_get hb j v hv)
    have k0 : row2[o2 + i * 3]? = some (.int .i64 b.var) := hg2 0 _ rfl
    have k1 : row2[o2 + i * 3 + 1]? = some (.int .u32 (b.key : Int)) := hg2 1 _ rfl
    have k2 : row2[o2 + i * 3 + 2]? = some (.int .i64 b.par) := hg2 2 _ rfl
    have heq := eqs_same b
    simp only [bagV, bagC] at heq
    simp (disch := first | omega | assumption | exact shr_lt (by assumption) | exact ndiff32 (by assumption) | exact below_lt (by omega) | fail) only [wIf_bool, wLd_3, decide_true, if_true, if_false, Bool.false_eq_true, true_and, wIdx_slice, Int.toNat_natCast, hi', ldP_row hrow, ldP_row hrow2, cellP_3 g0 g1 g2, cellP_3 k0 k1 k2, heq]
    exact hih (m - 1) _ _ _ (by omega) ⟨i + 1, by omega, by simp, rfl, by omega⟩
  · have hi' : ¬ (i : Int) < (bs.length : Int) := by omega
    simp (disch := first | omega | assumption | exact shr_lt (by assumption) | exact ndiff32 (by assumption) | exact below_lt (by omega) | fail) only [decide_false, if_false, Bool.false_eq_true, hi']
    exact Ext.self hle
end Go.Proofs.Ytaieijjfabbfeaa

set_option linter.unusedSimpArgs false
set_option linter.unusedVariables false
set_option linter.unusedSectionVars false
namespace Go.Proofs.Ytaieijjfabbfeaa
open Go.Clo

theorem zeros32 : [Value.int .u32 0, .int .u32 0, .int .u32 0, .int .u32 0, .int .u32 0, .int .u32 0, .int .u32 0, .int .u32 0, .int .u32 0, .int .u32 0, .int .u32 0, .int .u32 0, .int .u32 0, .int .u32 0, .int .u32 0, .int .u32 0, .int .u32 0, .int .u32 0, .int .u32 0, .int .u32 0, .int .u32 0, .int .u32 0, .int .u32 0, .int .u32 0, .int .u32 0, .int .u32 0, .int .u32 0, .int .u32 0, .int .u32 0, .int .u32 0, .int .u32 0, .int .u32 0] = u32s (List.replicate 32 0) := rfl
theorem cellP_u32s {l : List Nat} (h : l.length = 32) (k : VP) : cellP (u32s l) 0 (some 32) k = k (.agg ⟨u32s l⟩) := by
  rw [cellP_agg]
  have : (u32s l).length = 32 := by rw [u32s_length]; exact h
  simp [← this]
theorem oneCells_u32s : ∀ l : List Nat, oneCells (u32s l) = true
  | [] => rfl
  | x :: l => oneCells_u32s l

/-- One edge more. -/
def accE (v m e : Nat) : Nat := if e.testBit v then m ||| ndiff e (2 ^ v) else m
def accA (es : List Nat) (v : Nat) : Nat := es.foldl (accE v) 0
theorem accA_next {es : List Nat} {i e v : Nat} (h : es[i]? = some e) : accA (es.take (i + 1)) v = accE v (accA (es.take i) v) e := by
  unfold accA; rw [take_next h, List.foldl_append]; rfl
theorem accF_bit (v w : Nat) : ∀ (es : List Nat) (m : Nat), (es.foldl (accE v) m).testBit w = (m.testBit w || es.any fun e => e.testBit v && (e.testBit w && decide (w ≠ v)))
  | [], m => by simp
  | e :: es, m => by
    rw [List.foldl_cons, accF_bit v w es, List.any_cons, ← Bool.or_assoc]
    congr 1
    unfold accE
    split
    · rename_i h
      rw [Nat.testBit_or, ndiff_bit, Nat.testBit_two_pow, h]
      have : decide (v = w) = decide (w = v) := by congr 1; apply propext; exact eq_comm
      rw [this]
      simp
    · rename_i h
      simp at h; simp [h]
theorem accA_bit (es : List Nat) (v w : Nat) : (accA es v).testBit w = adj es v w := by
  unfold accA
  rw [accF_bit, Nat.zero_testBit, Bool.false_or]
  unfold adj
  by_cases h : v = w
  · subst h; simp
  · have h' : w ≠ v := fun e => h e.symm
    simp [h, h']
theorem accA_eq {es : List Nat} {n : Nat} (h : ∀ e ∈ es, e < 2 ^ n) (v : Nat) : accA es v = maskOf (adj es v) n := by
  apply Nat.eq_of_testBit_eq
  intro w
  rw [accA_bit, maskOf_bit]
  by_cases hw : w < n
  · simp [hw]
  · simp only [hw, decide_false, Bool.false_and]
    unfold adj
    rw [Bool.eq_false_iff]
    intro hc
    simp only [Bool.and_eq_true, List.any_eq_true] at hc
    obtain ⟨_, e, he, _, hb⟩ := hc
    rw [Nat.testBit_lt_two_pow (Nat.lt_of_lt_of_le (h e he) (Nat.pow_le_pow_right (by omega) (by omega)))] at hb
    cases hb
theorem accA_lt {es : List Nat} (h : Small es) (v : Nat) : accA es v < 4294967296 := by
  rw [accA_eq (n := 32) (fun e he => h e he) v]
  exact maskOf_lt _ 32
theorem small_take {es : List Nat} (h : Small es) (i : Nat) : Small (es.take i) := fun e he => h e (List.mem_of_mem_take he)

/-- The array of the neighbors. -/
def nears (es : List Nat) (n : Nat) : List Nat := (List.range 32).map fun v => if v < n then maskOf (adj es v) n else 0
theorem nears_get (es : List Nat) {n v : Nat} (hn : n ≤ 32) (hv : v < n) : (nears es n)[v]? = some (maskOf (adj es v) n) := by
  have : v < 32 := by omega
  simp [nears, hv, this]
theorem list_ext32 {l l' : List Nat} (h : l.length = 32) (h' : l'.length = 32) (hg : ∀ v, v < 32 → l[v]? = l'[v]?) : l = l' := by
  apply List.ext_getElem?
  intro v
  by_cases hv : v < 32
  · exact hg v hv
  · rw [List.getElem?_eq_none (by omega), List.getElem?_eq_none (by omega)]
theorem nears_len (es : List Nat) (n : Nat) : (nears es n).length = 32 := by simp [nears]

theorem adj69 {n : Nat} (hn : n ≤ 32) (A : Option Addr) (es : List Nat) (cap : Nat) (H : Heap) (nx : Nat) (hS : Sl H nx A (u32s es)) (hsm : ∀ e ∈ es, e < 2 ^ n) (hle : es.length ≤ 64) :
    Ans Try.prog 69 [gv n A es.length cap] H nx fun r H' nx' => r = .agg ⟨u32s (nears es n)⟩ ∧ Ext H nx H' nx' := by
  have hsm32 : Small es := fun e he => Nat.lt_of_lt_of_le (hsm e he) (Nat.le_trans (Nat.pow_le_pow_right (by omega) hn) (by decide))
  refine spec69 ?_
  unfold F69
  simp (disch := first | omega | assumption | exact shr_lt (by assumption) | exact ndiff32 (by assumption) | exact below_lt (by omega) | fail) only [wFld_eq, wLen_slice, wNew_eq, dBox_agg, oneCells, wLd_none, wLd_32, ldP_cells, cellP_one, getH_same, getH_ne, forceV_eq, forceN_eq, Option.elim_some, List.getElem?_cons_zero, List.getElem?_cons_succ, Yld.val, if_true, Nat.zero_add, Nat.add_zero, and_true, true_and, or_false, zeros32]
  generalize hK : hs (hs (hs H nx (some (.cells [.int .i64 n, .slice A es.length cap] 0))) (nx + 1) (some (.cells (u32s (List.replicate 32 0)) 0))) (nx + 1 + 1) (some (.cells (u32s (List.replicate 32 0)) 0)) = K
  have kG : getH K nx = some (.cells [.int .i64 n, .slice A es.length cap] 0) := by rw [← hK, getH_ne _ (by omega), getH_ne _ (by omega), getH_same]
  have kR : getH K (nx + 1) = some (.cells (u32s (List.replicate 32 0)) 0) := by rw [← hK, getH_ne _ (by omega), getH_same]
  have kA : getH K (nx + 1 + 1) = some (.cells (u32s (List.replicate 32 0)) 0) := by rw [← hK, getH_same]
  have hEK : Ext H nx K (nx + 3) := by
    rw [← hK]; exact ((((Ext.refl H nx).new _ (by omega) (by omega) : Ext H nx _ (nx + 1)).new _ (by omega) (by omega) : Ext H nx _ (nx + 1 + 1)).new _ (by omega) (by omega))
  refine wLoop_rule (m := es.length) (fun m L H' nx' => ∃ (i : Nat) (l : List Nat), m + i = es.length ∧ L = [.int .i64 (i : Int)] ∧ l.length = 32 ∧ (∀ v, v < 32 → l[v]? = some (if v < n then accA (es.take i) v else 0)) ∧
    getH H' (nx + 1 + 1) = some (.cells (u32s l) 0) ∧ Ext K (nx + 2) H' nx' ∧ nx + 3 ≤ nx') ?_ ⟨0, List.replicate 32 0, rfl, rfl, by simp, fun v hv => by rw [List.getElem?_replicate, if_pos hv]; simp [accA], kA, Ext.self (by omega), Nat.le_refl _⟩
  rintro m ih L H2 nx2 ⟨i, l, hm, rfl, hl, hval, hg, hE2, hnx2⟩ hih
  have g2 := (hE2.get nx (by omega)).trans kG
  have r2 := (hE2.get (nx + 1) (by omega)).trans kR
  have hEE2 : Ext H nx H2 nx2 := ⟨by omega, fun q hq => (hE2.get q (by omega)).trans (hEK.get q hq)⟩
  simp (disch := first | omega | assumption | exact shr_lt (by assumption) | exact ndiff32 (by assumption) | exact below_lt (by omega) | fail) only [List.getD_cons_zero, wBin_lss, wIf_bool, wBin_add64]
  by_cases hi : i < es.length
  case neg =>
    have hi' : ¬ (i : Int) < (es.length : Int) := by omega
    have hll : l = nears es n := by
      refine list_ext32 hl (nears_len es n) fun v hv => ?_
      rw [hval v hv, take_all hi]
      simp only [nears, List.getElem?_map, List.getElem?_range hv, Option.map_some]
      split
      · rw [accA_eq hsm]
      · rfl
    subst hll
    have e1 : (u32s (nears es n)).length = 32 := by rw [u32s_length]; exact hl
    have e2 : (u32s (List.replicate 32 0)).length = 32 := by rw [u32s_length]; simp
    have e3 := putL_all (c := u32s (List.replicate 32 0)) (vs := u32s (nears es n)) (by rw [e1, e2])
    have e4 := oneCells_u32s (nears es n)
    simp (disch := first | omega | assumption | exact shr_lt (by assumption) | exact ndiff32 (by assumption) | exact below_lt (by omega) | fail) only [ldP_cells, getH_same, decide_false, if_true, if_false, Bool.false_eq_true, Nat.zero_add, true_and, and_self, wSt_agg, stP_cells, Nat.le_refl, hi', hg, cellP_u32s hl, e1, e2, e4, r2, e3]
    exact hEE2.hs (by omega)
  have hi' : (i : Int) < (es.length : Int) := by omega
  obtain ⟨e, he⟩ : ∃ e, es[i]? = some e := ⟨_, List.getElem?_eq_getElem hi⟩
  obtain ⟨A, oA, rowA, rfl, hAn, hrowA, hgetA⟩ := (hS.ext hEE2).open (i := i) (by rw [u32s_length]; omega)
  have he32 := hsm32.get he
  have g0 := hgetA _ _ (u32s_get he)
  simp (disch := first | omega | assumption | exact shr_lt (by assumption) | exact ndiff32 (by assumption) | exact below_lt (by omega) | fail) only [wLd_none, ldP_cells, cellP_one, Option.elim_some, List.getElem?_cons_zero, decide_true, if_true, wIdx_slice, Int.toNat_natCast, Nat.mul_one, hi', ldP_row hrowA, g0, g2]
  refine wLoop_rule (m := n) (fun m L H' nx' => ∃ (j : Nat) (l : List Nat), m + j = n ∧ L = [.int .i64 (j : Int)] ∧ l.length = 32 ∧ (∀ v, v < 32 → l[v]? = some (if v < n then (if v < j then accA (es.take (i + 1)) v else accA (es.take i) v) else 0)) ∧
    getH H' (nx + 1 + 1) = some (.cells (u32s l) 0) ∧ Ext K (nx + 2) H' nx' ∧ nx + 3 ≤ nx') ?_ ⟨0, l, rfl, rfl, hl, fun v hv => by rw [hval v hv]; simp, hg, hE2, hnx2⟩
  rintro m3 ih3 L3 H3 nx3 ⟨j, l3, hm3, rfl, hl3, hval3, hg3, hE3, hnx3⟩ hih3
  simp (disch := first | omega | assumption | exact shr_lt (by assumption) | exact ndiff32 (by assumption) | exact below_lt (by omega) | fail) only [List.getD_cons_zero, wBin_lss, wBin_eql, wIf_bool, wBin_add64, bit_one, wBin_shr32, wBin_and1]
  by_cases hj : j < n
  case neg =>
    have hj' : ¬ (j : Int) < (n : Int) := by omega
    simp (disch := first | omega | assumption | exact shr_lt (by assumption) | exact ndiff32 (by assumption) | exact below_lt (by omega) | fail) only [decide_false, if_false, Bool.false_eq_true, hj']
    refine hih (m - 1) _ _ _ (by omega) ⟨i + 1, l3, by omega, by simp, hl3, fun v hv => ?_, hg3, hE3, hnx3⟩
    rw [hval3 v hv]
    by_cases hvn : v < n
    · rw [if_pos hvn, if_pos hvn, if_pos (by omega)]
    · rw [if_neg hvn, if_neg hvn]
  have hj' : (j : Int) < (n : Int) := by omega
  have hcur : l3[j]? = some (accA (es.take i) j) := by rw [hval3 j (by omega), if_pos hj, if_neg (by omega)]
  have hacc := accA_lt (small_take hsm32 i) j
  have hp : 2 ^ j < 4294967296 := pow32 (by omega)
  have step : ∀ x, x = accA (es.take (i + 1)) j → ∀ v, v < 32 → (l3.set j x)[v]? = some (if v < n then (if v < j + 1 then accA (es.take (i + 1)) v else accA (es.take i) v) else 0) := by
    intro x hx v hv
    rw [List.getElem?_set]
    by_cases hvj : j = v
    · subst hvj; rw [if_pos rfl, if_pos (by omega), if_pos hj, if_pos (by omega), hx]
    · rw [if_neg hvj, hval3 v hv]
      by_cases hvn : v < n
      · rw [if_pos hvn, if_pos hvn]
        by_cases hlt : v < j
        · rw [if_pos hlt, if_pos (by omega)]
        · rw [if_neg hlt, if_neg (by omega)]
      · rw [if_neg hvn, if_neg hvn]
  cases hb : e.testBit j with
  | false =>
    have hsame : l3.set j (accA (es.take i) j) = l3 := by
      apply List.ext_getElem?
      intro v
      rw [List.getElem?_set]
      split
      · rename_i h; subst h; rw [if_pos (by omega), hcur]
      · rfl
    have hx := step (accA (es.take i) j) (by rw [accA_next he, accE, if_neg (by simp [hb])])
    rw [hsame] at hx
    simp (disch := first | omega | assumption | exact shr_lt (by assumption) | exact ndiff32 (by assumption) | exact below_lt (by omega) | fail) only [wLd_none, decide_true, if_true, if_false, Bool.false_eq_true, Nat.zero_add, wIdx_array, Int.toNat_natCast, Nat.mul_one, wBin_andNot32, wBin_shl32, hj', wJoin_eq]
    exact hih3 (m3 - 1) _ _ _ (by omega) ⟨j + 1, l3, by omega, by simp, hl3, hx, hg3, hE3, hnx3⟩
  | true =>
    have hnd : ndiff e (2 ^ j) < 4294967296 := ndiff32 he32
    have hjl : j < l3.length := by omega
    have hx := step (accA (es.take i) j ||| ndiff e (2 ^ j)) (by rw [accA_next he, accE, if_pos hb])
    have gc := u32s_get hcur
    have hlen3 : (u32s l3).length = 32 := by rw [u32s_length]; exact hl3
    simp (disch := first | omega | assumption | exact shr_lt (by assumption) | exact ndiff32 (by assumption) | exact below_lt (by omega) | fail) only [wLd_none, ldP_cells, cellP_one, Option.elim_some, decide_true, if_true, Nat.zero_add, true_and, wIdx_array, Int.toNat_natCast, Nat.mul_one, wSt_int, stP_cells, wBin_andNot32, wBin_or32, wBin_shl32, List.length_cons, List.length_nil, Nat.reduceLeDiff, hj', wJoin_eq, hg3, gc, putL_u32s hjl, hlen3]
    refine ⟨by omega, hih3 (m3 - 1) _ _ _ (by omega) ⟨j + 1, l3.set j (accA (es.take i) j ||| ndiff e (2 ^ j)), by omega, by simp, by rw [List.length_set]; exact hl3, hx, by rw [getH_same], (hE3.hs (by omega)).more (by omega), by omega⟩⟩
end Go.Proofs.Ytaieijjfabbfeaa

set_option linter.unusedSimpArgs false
set_option linter.unusedVariables false
set_option linter.unusedSectionVars false
namespace Go.Proofs.Ytaieijjfabbfeaa
open Go.Clo

theorem wAidx_get {c : List Value} {i n : Nat} {x : Value} (h : c[i]? = some x) (hi : i < n) (k : VP) : wAidx (.agg ⟨c⟩) (.int .i64 (i : Int)) n 1 false k = k x := by
  show cond (Nat.blt i n) (cutK c (i * 1) none False k) False = k x
  have : Nat.blt i n = true := by simp [Nat.blt_eq]; omega
  rw [this, Nat.mul_one]
  show nthK c i False k = k x
  rw [nthK_eq, h]; rfl

theorem near50 {n v : Nat} (hn : n ≤ 32) (hv : v < n) (A : Option Addr) (es : List Nat) (cap : Nat) (H : Heap) (nx : Nat) (hS : Sl H nx A (u32s es)) (hsm : ∀ e ∈ es, e < 2 ^ n) (hle : es.length ≤ 64) (hg : gcode n es = 0) :
    Ans Try.prog 50 [gv n A es.length cap, .int .i64 (v : Int)] H nx fun r H' nx' => r = .int .u32 ((maskOf (adj es v) n : Nat) : Int) ∧ Ext H nx H' nx' := by
  have hsm32 : Small es := fun e he => Nat.lt_of_lt_of_le (hsm e he) (Nat.le_trans (Nat.pow_le_pow_right (by omega) hn) (by decide))
  refine spec50 ?_
  unfold F50
  have hE1 : Ext H nx (hs H nx (some (.cells [.int .i64 n, .slice A es.length cap] 0))) (nx + 1) := (Ext.refl H nx).new _ (Nat.le_refl _) (by omega)
  simp (disch := first | omega | assumption | exact shr_lt (by assumption) | exact ndiff32 (by assumption) | exact below_lt (by omega) | fail) only [List.getD_cons_zero, wBin_lss, wIf_bool, wGuard_false, wFld_eq, wNew_eq, dBox_agg, oneCells, wLd_none, wLd_2, ldP_cells, getH_same, forceV_eq, Yld.val, if_true, Nat.add_zero, cellP_lit2, wJoin_eq]
  refine wCall_rule (check37 n A es cap _ _ (hS.ext hE1) hsm32) ?_
  rintro _ H2 nx2 ⟨rfl, hE2⟩
  have hg2 := hE2.get nx (by omega)
  rw [getH_same] at hg2
  have d1 : decide (gcode n es ≠ 0) = false := by simp [hg]
  have h1 : ¬ (v : Int) < 0 := by omega
  have h2 : ¬ (v : Int) ≥ (n : Int) := by omega
  simp (disch := first | omega | assumption | exact shr_lt (by assumption) | exact ndiff32 (by assumption) | exact below_lt (by omega) | fail) only [wBin_geq, wBin_neq, wIf_bool, wGuard_false, ldP_cells, cellP_one, Option.elim_some, List.getElem?_cons_zero, decide_false, if_false, Bool.false_eq_true, d1, h1, h2, hg2, cellP_lit2]
  refine wCall_rule (adj69 hn A es cap _ _ (hS.ext (hE1.trans hE2)) hsm hle) ?_
  rintro _ H3 nx3 ⟨rfl, hE3⟩
  rw [wAidx_get (u32s_get (nears_get es hn hv)) (by omega)]
  simp (disch := first | omega | assumption | exact shr_lt (by assumption) | exact ndiff32 (by assumption) | exact below_lt (by omega) | fail) only [true_and]
  exact (hE1.trans hE2).trans hE3

theorem adj33 {n : Nat} (hn : n ≤ 32) (A : Option Addr) (es : List Nat) (cap : Nat) (H : Heap) (nx : Nat) (hS : Sl H nx A (u32s es)) (hsm : ∀ e ∈ es, e < 2 ^ n) (hle : es.length ≤ 64) (hgc : gcode n es = 0) :
    Ans Try.prog 33 [gv n A es.length cap] H nx fun r H' nx' => r = .agg ⟨u32s (nears es n)⟩ ∧ Ext H nx H' nx' := by
  refine spec33 ?_
  unfold F33
  simp (disch := first | omega | assumption | exact shr_lt (by assumption) | exact ndiff32 (by assumption) | exact below_lt (by omega) | fail) only [wFld_eq, wNew_eq, dBox_agg, oneCells, wLd_none, wLd_2, wLd_32, ldP_cells, cellP_one, getH_same, getH_ne, forceV_eq, Option.elim_some, List.getElem?_cons_zero, Yld.val, if_true, Nat.add_zero, zeros32]
  generalize hK : hs (hs (hs H nx (some (.cells [.int .i64 n, .slice A es.length cap] 0))) (nx + 1) (some (.cells (u32s (List.replicate 32 0)) 0))) (nx + 1 + 1) (some (.cells (u32s (List.replicate 32 0)) 0)) = K
  have kG : getH K nx = some (.cells [.int .i64 n, .slice A es.length cap] 0) := by rw [← hK, getH_ne _ (by omega), getH_ne _ (by omega), getH_same]
  have kR : getH K (nx + 1) = some (.cells (u32s (List.replicate 32 0)) 0) := by rw [← hK, getH_ne _ (by omega), getH_same]
  have kA : getH K (nx + 1 + 1) = some (.cells (u32s (List.replicate 32 0)) 0) := by rw [← hK, getH_same]
  have hEK : Ext H nx K (nx + 3) := by
    rw [← hK]; exact ((((Ext.refl H nx).new _ (by omega) (by omega) : Ext H nx _ (nx + 1)).new _ (by omega) (by omega) : Ext H nx _ (nx + 1 + 1)).new _ (by omega) (by omega))
  refine wLoop_rule (m := n) (fun m L H' nx' => ∃ (i : Nat) (l : List Nat), m + i = n ∧ L = [.int .i64 (i : Int)] ∧ l.length = 32 ∧ (∀ v, v < 32 → l[v]? = some (if v < i then maskOf (adj es v) n else 0)) ∧
    getH H' (nx + 1 + 1) = some (.cells (u32s l) 0) ∧ Ext K (nx + 2) H' nx' ∧ nx + 3 ≤ nx') ?_ ⟨0, List.replicate 32 0, rfl, rfl, by simp, fun v hv => by rw [List.getElem?_replicate, if_pos hv]; simp, kA, Ext.self (by omega), Nat.le_refl _⟩
  rintro m ih L H2 nx2 ⟨i, l, hm, rfl, hl, hval, hg, hE2, hnx2⟩ hih
  have g2 := (hE2.get nx (by omega)).trans kG
  have r2 := (hE2.get (nx + 1) (by omega)).trans kR
  have hEE2 : Ext H nx H2 nx2 := ⟨by omega, fun q hq => (hE2.get q (by omega)).trans (hEK.get q hq)⟩
  simp (disch := first | omega | assumption | exact shr_lt (by assumption) | exact ndiff32 (by assumption) | exact below_lt (by omega) | fail) only [List.getD_cons_zero, wBin_lss, wIf_bool, wBin_add64]
  by_cases hi : i < n
  case neg =>
    have hi' : ¬ (i : Int) < (n : Int) := by omega
    have hin : i = n := by omega
    subst hin
    have hll : l = nears es i := by
      refine list_ext32 hl (nears_len es i) fun v hv => ?_
      rw [hval v hv]
      simp [nears, hv]
    subst hll
    have e1 : (u32s (nears es i)).length = 32 := by rw [u32s_length]; exact hl
    have e2 : (u32s (List.replicate 32 0)).length = 32 := by rw [u32s_length]; simp
    have e3 := putL_all (c := u32s (List.replicate 32 0)) (vs := u32s (nears es i)) (by rw [e1, e2])
    have e4 := oneCells_u32s (nears es i)
    simp (disch := first | omega | assumption | exact shr_lt (by assumption) | exact ndiff32 (by assumption) | exact below_lt (by omega) | fail) only [ldP_cells, getH_same, decide_false, if_true, if_false, Bool.false_eq_true, Nat.zero_add, true_and, and_self, wSt_agg, stP_cells, Nat.le_refl, hi', hg, cellP_u32s hl, e1, e2, e4, r2, e3]
    exact hEE2.hs (by omega)
  have hi' : (i : Int) < (n : Int) := by omega
  simp (disch := first | omega | assumption | exact shr_lt (by assumption) | exact ndiff32 (by assumption) | exact below_lt (by omega) | fail) only [ldP_cells, decide_true, if_true, Nat.zero_add, wIdx_array, Int.toNat_natCast, Nat.mul_one, hi', g2, cellP_lit2]
  refine wCall_rule (near50 hn hi A es cap _ _ (hS.ext hEE2) hsm hle hgc) ?_
  rintro _ H3 nx3 ⟨rfl, hE3⟩
  have hg3 := (hE3.get (nx + 1 + 1) (by omega)).trans hg
  have hnx3 := hE3.le
  have hjl : i < l.length := by omega
  have hlen3 : (u32s l).length = 32 := by rw [u32s_length]; exact hl
  simp (disch := first | omega | assumption | exact shr_lt (by assumption) | exact ndiff32 (by assumption) | exact below_lt (by omega) | fail) only [Nat.zero_add, wSt_int, stP_cells, List.length_cons, List.length_nil, Nat.reduceLeDiff, hg3, putL_u32s hjl, hlen3]
  refine ⟨by omega, hih (m - 1) _ _ _ (by omega) ⟨i + 1, l.set i (maskOf (adj es i) n), by omega, by simp, by rw [List.length_set]; exact hl, fun v hv => ?_, by rw [getH_same], ((hE2.trans (hE3.less (by omega))).hs (by omega)), by omega⟩⟩
  rw [List.getElem?_set]
  by_cases hvj : i = v
  · subst hvj; rw [if_pos rfl, if_pos (by omega), if_pos (by omega)]
  · rw [if_neg hvj, hval v hv]
    by_cases hlt : v < i
    · rw [if_pos hlt, if_pos (by omega)]
    · rw [if_neg hlt, if_neg (by omega)]
end Go.Proofs.Ytaieijjfabbfeaa
