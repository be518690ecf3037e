/-
  Contract: ast.checkRules.
  Contracts: ast.checkOrder, ast.Check.
  Contracts: slices.Clone over keys, ast.Order.
  Contract: ast.Order.
  Contract: strconv.Itoa at 1, 2, 3 by closed runs.
  Lists of names that grow: appending keeps other blocks.  Plain: the names.
  MADE BY PROGRAM (wip/gen/gen.py): functions 8 9 19 22 3 as marked code, and their claims written out.
  Contract: explain.names.
  What the law's names needs: one byte as a string, lists that outlast a put.
  Contract: the law's names.
  Plain: what Refusal answers.  Contract: explain.Refusal.
  Contract: the law's refused.
  MADE BY PROGRAM (wip/gen/gen.py): function 5: its claim written out.
  Contract: the law's Great (on its claim F5; the text G9 would tie F5 to the program).
  Arguments opened, however deep: what is read at a type stands in the abstract heap (nested slices, structs), for any world.
  MADE BY PROGRAM (wip/gen/gen.py): functions 15 7 as marked code, and their claims written out.
-/
import Derived.Test.YthbdeaeghipliaaGreatDoorK4
import Derived.Test.YthbdeaeghipliaaGreatDoorK3
import Derived.KernelRfl
import Derived.SizedLaws
import Derived.ChangeMaps5
set_option linter.unusedSimpArgs false
set_option linter.unusedVariables false
set_option linter.unusedSectionVars false
namespace Go.Proofs.YthbdeaeghipliaaGreatDoor
open Go.Clo

theorem items_B {r : RuleR} (h : itemsCode r = 0) : RuleB r := by
  unfold itemsCode at h
  split at h
  · cases h
  split at h
  · cases h
  rename_i h8
  split at h
  · rename_i h1; exact absurd h h1
  rename_i h1
  have h1 : firstC (r.atoms.map atomCode) = 0 := by simpa using h1
  refine ⟨by omega, fun a ha => ?_, by omega⟩
  have h2 := firstC_zero h1 a ha
  unfold atomCode at h2
  split at h2
  · split at h2
    · cases h2
    · omega
  · cases h2
theorem needed_len (q : QueryR) : (neededOf q).length ≤ q.head.length + 1 := by
  unfold neededOf
  split <;> simp
open Classical in
theorem ruleCode_12 {nd : List ByteArray} {r : RuleR} (h0 : itemsCode r = 0) (h : 8 < (varsOf r).length) : ruleCode nd r = 12 := by
  rw [ruleCode, if_neg (by simpa using h0), if_pos h]
theorem ruleCode_items {nd : List ByteArray} {r : RuleR} (h0 : itemsCode r ≠ 0) : ruleCode nd r = itemsCode r := by
  rw [ruleCode, if_pos h0]
open Classical in
theorem ruleCode_22 {nd : List ByteArray} {r : RuleR} (h0 : itemsCode r = 0) (h : ¬ 8 < (varsOf r).length) {v : ByteArray} (hv : v ∈ nd ++ varsOf r) (hp : v ∉ posOf r) : ruleCode nd r = 22 := by
  rw [ruleCode, if_neg (by simpa using h0), if_neg h, if_neg]
  intro hall
  rw [List.all_eq_true] at hall
  exact hp (by simpa using hall v hv)
open Classical in
theorem ruleCode_0 {nd : List ByteArray} {r : RuleR} (h0 : itemsCode r = 0) (h : ¬ 8 < (varsOf r).length) (hv : ∀ v ∈ nd ++ varsOf r, v ∈ posOf r) : ruleCode nd r = 0 := by
  rw [ruleCode, if_neg (by simpa using h0), if_neg h, if_pos]
  rw [List.all_eq_true]
  intro v hm
  simpa using hv v hm
theorem dBsl_2 (A B : Option Addr) (n c m d : Nat) (k : List Value → Prop) : dBsl 2 1 [.slice none 0 0] [(0, .slice A n c), (1, .slice B m d)] k = k [.slice A n c, .slice B m d] := rfl
theorem dBsl_s1 (x : ByteArray) (k : List Value → Prop) : dBsl 1 1 [.string ⟨#[]⟩] [(0, .string x)] k = k [.string x] := rfl

set_option maxHeartbeats 4000000 in
theorem rules43 (q : QueryR) (H : Heap) (nx : Nat) (hQ : QueryOK H nx q) (hz9 : ∀ r ∈ q.rules, RuleS r) (hh6 : q.head.length ≤ 6) (hr3 : q.rules.length ≤ 3) :
    Ans Tryz.prog 43 [.agg ⟨queryC q⟩] H nx fun v H' nx' => .int .i64 (firstC (q.rules.map (ruleCode (neededOf q)))) = v ∧ Ext H nx H' nx' := by
  refine spec43 ?_
  unfold F43
  unfold queryC
  generalize hX : firstC (q.rules.map (ruleCode (neededOf q))) = X
  have hnl := needed_len q
  have hE1 : Ext H nx (hs H nx (some (.cells [.slice q.HA q.head.length q.hc, .int .i64 q.agg, .string q.aggvar, .slice q.RA q.rules.length q.rc, .slice q.OA q.order.length q.oc] 0))) (nx + 1) := (Ext.refl H nx).new _ (Nat.le_refl _) (by omega)
  have hg1 : getH (hs H nx (some (.cells [.slice q.HA q.head.length q.hc, .int .i64 q.agg, .string q.aggvar, .slice q.RA q.rules.length q.rc, .slice q.OA q.order.length q.oc] 0))) nx = some (.cells [.slice q.HA q.head.length q.hc, .int .i64 q.agg, .string q.aggvar, .slice q.RA q.rules.length q.rc, .slice q.OA q.order.length q.oc] 0) := getH_same _ _ _
  simp (disch := first | omega | assumption | exact shr_lt (by assumption) | exact ndiff32 (by assumption) | exact below_lt (by omega) | fail) only [wFld_eq, wNew_eq, dBox_agg, oneCells, wLd_none, wLd_2, ldP_cells, cellP_one, getH_same, forceV_eq, Option.elim_some, List.getElem?_cons_zero, Yld.val, if_true, Nat.zero_add, Nat.add_zero]
  generalize hs H nx (some (.cells [.slice q.HA q.head.length q.hc, .int .i64 q.agg, .string q.aggvar, .slice q.RA q.rules.length q.rc, .slice q.OA q.order.length q.oc] 0)) = H1 at hE1 hg1 ⊢
  refine wCall_rule (clone70 q.HA q.head q.hc H1 (nx + 1) (hQ.head.ext hE1) (hQ.headH.has.ext hE1) (by omega)) ?_
  rintro v2 H2 nx2 ⟨hv2, hE2⟩
  have hn2 := hE2.le
  have hg2 := (hE2.get nx (by omega)).trans hg1
  refine wJoin_rule (fun L H' nx' => ∃ u, L = [u] ∧ AccL (nx + 1) H' nx' u (strs (neededOf q)) ∧ Ext H1 (nx + 1) H' nx') ?_ ?_
  · intro tj hj
    by_cases hv : q.aggvar = nul
    · have dv : decide (q.aggvar = ⟨#[]⟩) = true := by simp [hv, nul]
      simp (disch := first | omega | assumption | exact shr_lt (by assumption) | exact ndiff32 (by assumption) | exact below_lt (by omega) | fail) only [wIf_bool, ldP_cells, cellP_one, Option.elim_some, List.getElem?_cons_zero, List.getElem?_cons_succ, if_false, Bool.false_eq_true, Bool.not_true, hg2, wBin_strne, dv]
      exact hj _ _ _ ⟨_, rfl, by rw [neededOf, if_pos hv, List.append_nil]; exact hv2, hE2⟩
    · have dv : decide (q.aggvar = ⟨#[]⟩) = false := by simpa [nul] using hv
      simp (disch := first | omega | assumption | exact shr_lt (by assumption) | exact ndiff32 (by assumption) | exact below_lt (by omega) | fail) only [wIf_bool, ldP_cells, cellP_one, Option.elim_some, List.getElem?_cons_zero, List.getElem?_cons_succ, if_true, Bool.not_false, hg2, wBin_strne, dv, dBsl_s1]
      have hX2 : Ext H2 nx2 (hs H2 nx2 (some (.cells [.string q.aggvar] 0))) (nx2 + 1) := (Ext.refl _ _).new _ (Nat.le_refl _) (by omega)
      refine wApp_accL (lo := nx + 1) (H0 := H1) (c := strs q.head) (y := .string q.aggvar) (hv2.ext hX2) (src_new (getH_same _ _ _) rfl (by omega)) rfl (by omega) (by rw [strs_length]; omega) (hE2.trans hX2) (by omega) ?_
      intro v' H' h1 h2 _
      refine hj _ _ _ ⟨_, rfl, ?_, h2⟩
      rw [neededOf, if_neg hv, ← strs_snoc]
      exact h1
  rintro _ H3 nx3 ⟨u, rfl, hu, hE3⟩
  have hg3 := (hE3.get nx (by omega)).trans hg1
  have hEE3 := hE1.trans hE3
  have hn3 := hE3.le
  obtain ⟨NA, rfl, hNS, hNH⟩ := hu.sl
  rw [strs_length]
  simp (disch := first | omega | assumption | exact shr_lt (by assumption) | exact ndiff32 (by assumption) | exact below_lt (by omega) | fail) only [List.getD_cons_zero, wLen_slice, ldP_cells, cellP_one, Option.elim_some, List.getElem?_cons_zero, List.getElem?_cons_succ, hg3]
  refine wLoop_rule (m := q.rules.length) (fun m L H' nx' => ∃ i : Nat, m + i = q.rules.length ∧ L = [.int .i64 0, .int .i64 (i : Int)] ∧ (∀ (j : Nat) r, j < i → q.rules[j]? = some r → ruleCode (neededOf q) r = 0) ∧ Ext H3 nx3 H' nx') ?_ ⟨0, rfl, rfl, fun j t h => by omega, Ext.refl _ _⟩
  rintro m ih L H4 nx4 ⟨i, hm, rfl, hz, hE4⟩ hih
  have hEE4 := hEE3.trans hE4
  simp (disch := first | omega | assumption | exact shr_lt (by assumption) | exact ndiff32 (by assumption) | exact below_lt (by omega) | fail) only [List.getD_cons_zero, List.getD_cons_succ, wBin_lss, wIf_bool, wBin_add64]
  by_cases hi : i < q.rules.length
  case neg =>
    have hi' : ¬ (i : Int) < (q.rules.length : Int) := by omega
    have e : X = 0 := by
      rw [← hX]
      exact firstC_all fun j b hb => hz j b (by have := (List.getElem?_eq_some_iff.1 hb).1; omega) hb
    simp (disch := first | omega | assumption | exact shr_lt (by assumption) | exact ndiff32 (by assumption) | exact below_lt (by omega) | fail) only [decide_false, if_false, Bool.false_eq_true, true_and, hi', e]
    exact hEE4
  have hi' : (i : Int) < (q.rules.length : Int) := by omega
  obtain ⟨r, hr⟩ : ∃ r, q.rules[i]? = some r := ⟨_, List.getElem?_eq_getElem hi⟩
  have hrm := List.mem_of_getElem? hr
  have hstop : ruleCode (neededOf q) r ≠ 0 → X = ruleCode (neededOf q) r := fun h => by rw [← hX]; exact firstC_at hz hr h
  obtain ⟨b, o, row, hRA, hb, hrow, _, hcell⟩ := Sl.elem (hQ.ext hEE4).rules ruleC_len (by omega) hr
  unfold ruleC at hcell
  rw [hRA]
  simp (disch := first | omega | assumption | exact shr_lt (by assumption) | exact ndiff32 (by assumption) | exact below_lt (by omega) | fail) only [oneCells, wLd_2, ldP_cells, getH_same, decide_true, if_true, Nat.zero_add, true_and, and_self, wIdx_slice, Int.toNat_natCast, wSt_agg, stP_cells, List.length_cons, List.length_nil, Nat.le_refl, Nat.reduceAdd, hi', ldP_row hrow, hcell, putL_lit2, cellP_lit2]
  have hE5 : Ext H4 nx4 (hs (hs H4 nx4 (some (.cells [.slice none 0 0, .slice none 0 0] 0))) nx4 (some (.cells [.slice r.AA r.atoms.length r.ac, .slice r.CA r.conds.length r.cc] 0))) (nx4 + 1) := ((Ext.refl H4 nx4).new _ (Nat.le_refl _) (by omega) : Ext H4 nx4 _ (nx4 + 1)).hs (Nat.le_refl _)
  have hg5 : getH (hs (hs H4 nx4 (some (.cells [.slice none 0 0, .slice none 0 0] 0))) nx4 (some (.cells [.slice r.AA r.atoms.length r.ac, .slice r.CA r.conds.length r.cc] 0))) nx4 = some (.cells [.slice r.AA r.atoms.length r.ac, .slice r.CA r.conds.length r.cc] 0) := getH_same _ _ _
  generalize hs (hs H4 nx4 (some (.cells [.slice none 0 0, .slice none 0 0] 0))) nx4 (some (.cells [.slice r.AA r.atoms.length r.ac, .slice r.CA r.conds.length r.cc] 0)) = H5 at hE5 hg5 ⊢
  have hEE5 := hEE4.trans hE5
  refine wCall_rule (items71 r H5 (nx4 + 1) ((hQ.rule r hrm).ext hEE5) (hz9 r hrm)) ?_
  rintro _ H6 nx6 ⟨rfl, hE6⟩
  have hEE6 := hEE5.trans hE6
  have hn6 := hE6.le
  have hg6 := (hE6.get nx4 (by omega)).trans hg5
  by_cases hc0 : itemsCode r = 0
  case neg =>
    have d : decide (itemsCode r ≠ 0) = true := decide_eq_true hc0
    have e := hstop (by rw [ruleCode_items hc0]; exact hc0)
    rw [ruleCode_items hc0] at e
    simp (disch := first | omega | assumption | exact shr_lt (by assumption) | exact ndiff32 (by assumption) | exact below_lt (by omega) | fail) only [wBin_neq, wIf_bool, if_true, true_and, d, e]
    exact hEE6
  rw [hc0]
  simp (disch := first | omega | assumption | exact shr_lt (by assumption) | exact ndiff32 (by assumption) | exact below_lt (by omega) | fail) only [wBin_neq, wIf_bool, ldP_cells, hg6, cellP_lit2]
  refine wCall_rule (vars47 r H6 nx6 ((hQ.rule r hrm).ext hEE6) (items_B hc0)) ?_
  rintro v7 H7 nx7 ⟨hv7, hE7⟩
  have hEE7 := hEE6.trans hE7
  have hn7 := hE7.le
  have hg7 := (hE7.get nx4 (by omega)).trans hg6
  have hv7L : AccL nx6 H7 nx7 v7 (strs (varsOf r)) := .inl (by rw [strs_length]; exact hv7)
  obtain ⟨VA, rfl, hVS, hVH⟩ := hv7L.sl
  rw [strs_length]
  by_cases h8 : 8 < (varsOf r).length
  · have d : (8 : Int) < ((varsOf r).length : Int) := by omega
    have e := hstop (by rw [ruleCode_12 hc0 h8]; decide)
    rw [ruleCode_12 hc0 h8] at e
    simp (disch := first | omega | assumption | exact shr_lt (by assumption) | exact ndiff32 (by assumption) | exact below_lt (by omega) | fail) only [wBin_gtr, wIf_bool, wLen_slice, decide_true, if_true, true_and, d, e]
    exact hEE7
  have d : ¬ (8 : Int) < ((varsOf r).length : Int) := by omega
  simp (disch := first | omega | assumption | exact shr_lt (by assumption) | exact ndiff32 (by assumption) | exact below_lt (by omega) | fail) only [wBin_gtr, wIf_bool, wLen_slice, ldP_cells, decide_false, if_false, Bool.false_eq_true, d, hg7, cellP_lit2]
  refine wCall_rule (positive72 r H7 nx7 ((hQ.rule r hrm).ext hEE7) (items_B hc0)) ?_
  rintro _ H8 nx8 ⟨⟨rfl, hn8, hps⟩, hE8⟩
  have hEE8 := hEE7.trans hE8
  simp (disch := first | omega | assumption | exact shr_lt (by assumption) | exact ndiff32 (by assumption) | exact below_lt (by omega) | fail) only [dBsl_2]
  have hE9 : Ext H8 nx8 (hs H8 nx8 (some (.cells [.slice NA (neededOf q).length (neededOf q).length, .slice VA (varsOf r).length (varsOf r).length] 0))) (nx8 + 1) := (Ext.refl _ _).new _ (Nat.le_refl _) (by omega)
  have hE38 := (((hE4.trans hE5).trans hE6).trans hE7).trans (hE8.trans hE9)
  have hE79 := hE8.trans hE9
  refine wCall_rule (concat73 nx8 NA VA (neededOf q) (varsOf r) _ _ _ (nx8 + 1) (getH_same _ _ _) (by omega) (hNS.ext hE38) (hNH.ext hE38) (hVS.ext hE79) (hVH.ext hE79) (by omega) (by omega)) ?_
  rintro _ H10 nx10 ⟨⟨CA, cc, rfl, hCS⟩, hE10⟩
  have hEE10 := (hEE8.trans hE9).trans hE10
  obtain ⟨S, hS, hSs⟩ := hps.ext hn8 (hE9.trans hE10)
  have hlen : (neededOf q ++ varsOf r).length ≤ 15 := by rw [List.length_append]; omega
  generalize hN : neededOf q ++ varsOf r = N at hlen hCS ⊢
  simp (disch := first | omega | assumption | exact shr_lt (by assumption) | exact ndiff32 (by assumption) | exact below_lt (by omega) | fail) only [wLen_slice]
  refine wLoop_rule (m := N.length) (fun m L H' nx' => ∃ j : Nat, m + j = N.length ∧ L = [.int .i64 0, .int .i64 (j : Int)] ∧ (∀ s ∈ N.take j, s ∈ posOf r) ∧ H10 = H' ∧ nx10 = nx') ?_ ⟨0, rfl, rfl, fun s h => by simp at h, rfl, rfl⟩
  rintro m9 ih9 L _ _ ⟨j, hm9, rfl, hall, rfl, rfl⟩ hih9
  simp (disch := first | omega | assumption | exact shr_lt (by assumption) | exact ndiff32 (by assumption) | exact below_lt (by omega) | fail) only [List.getD_cons_zero, List.getD_cons_succ, wBin_lss, wIf_bool, wBin_add64]
  by_cases hj : j < N.length
  case neg =>
    have hj' : ¬ (j : Int) < (N.length : Int) := by omega
    rw [List.take_of_length_le (by omega)] at hall
    simp (disch := first | omega | assumption | exact shr_lt (by assumption) | exact ndiff32 (by assumption) | exact below_lt (by omega) | fail) only [decide_false, if_false, Bool.false_eq_true, hj']
    refine hih (m - 1) _ _ _ (by omega) ⟨i + 1, by omega, by simp, fun k r' hk hr' => ?_, ?_⟩
    · by_cases hki : k = i
      · subst hki
        rw [hr] at hr'
        cases hr'
        exact ruleCode_0 hc0 h8 (by rw [hN]; exact hall)
      · exact hz k r' (by omega) hr'
    · exact hE38.trans hE10
  have hj' : (j : Int) < (N.length : Int) := by omega
  obtain ⟨s, hs⟩ : ∃ s, N[j]? = some s := ⟨_, List.getElem?_eq_getElem hj⟩
  have hsm := List.mem_of_getElem? hs
  obtain ⟨b5, o5, row5, hCA, hb5, hrow5, hget5⟩ := hCS.open (i := j) (by rw [strs_length]; omega)
  have g5 := hget5 _ _ (strs_get hs)
  rw [hCA]
  cases hv : S s with
  | false =>
    have hp : s ∉ posOf r := fun h => by rw [(hSs s).2 h] at hv; cases hv
    have e := hstop (by rw [ruleCode_22 hc0 h8 (by rw [hN]; exact hsm) hp]; decide)
    rw [ruleCode_22 hc0 h8 (by rw [hN]; exact hsm) hp] at e
    simp (disch := first | omega | assumption | exact shr_lt (by assumption) | exact ndiff32 (by assumption) | exact below_lt (by omega) | fail) only [wIf_bool, wUn_not, wLd_none, cellP_one, Option.elim_some, decide_true, if_true, true_and, Bool.not_false, wIdx_slice, Int.toNat_natCast, Nat.mul_one, hj', ldP_row hrow5, g5, hS.lk, hv, e]
    exact hEE10
  | true =>
    simp (disch := first | omega | assumption | exact shr_lt (by assumption) | exact ndiff32 (by assumption) | exact below_lt (by omega) | fail) only [wIf_bool, wUn_not, wLd_none, cellP_one, Option.elim_some, decide_true, if_true, if_false, Bool.false_eq_true, Bool.not_true, wIdx_slice, Int.toNat_natCast, Nat.mul_one, hj', ldP_row hrow5, g5, hS.lk, hv]
    refine hih9 (m9 - 1) _ _ _ (by omega) ⟨j + 1, by omega, by simp, fun t ht => ?_, rfl, rfl⟩
    rw [take_snocB hs, List.mem_append, List.mem_singleton] at ht
    rcases ht with ht | rfl
    · exact hall t ht
    · exact (hSs _).1 hv
end Go.Proofs.YthbdeaeghipliaaGreatDoor

set_option linter.unusedSimpArgs false
set_option linter.unusedVariables false
set_option linter.unusedSectionVars false
namespace Go.Proofs.YthbdeaeghipliaaGreatDoor
open Go.Clo

set_option maxHeartbeats 2000000 in
open Classical in
theorem order44 (q : QueryR) (H : Heap) (nx : Nat) (hQ : QueryOK H nx q) (hh6 : q.head.length ≤ 6) :
    Ans Tryz.prog 44 [.agg ⟨queryC q⟩] H nx fun v H' nx' => .int .i64 (orderC q.head [] (q.order.map KeyR.var)) = v ∧ Ext H nx H' nx' := by
  refine spec44 ?_
  unfold F44
  unfold queryC
  generalize hX : orderC q.head [] (q.order.map KeyR.var) = X
  have hVl : (q.order.map KeyR.var).length = q.order.length := List.length_map _
  have hVg : ∀ (i : Nat) (k : KeyR), q.order[i]? = some k → (q.order.map KeyR.var)[i]? = some k.var := fun i k h => by rw [List.getElem?_map, h]; rfl
  generalize q.order.map KeyR.var = V at hX hVl hVg
  simp (disch := first | omega | assumption | exact shr_lt (by assumption) | exact ndiff32 (by assumption) | exact below_lt (by omega) | fail) only [wFld_eq, wLen_slice, wNew_eq, dBox_agg, oneCells, wLd_none, ldP_cells, cellP_one, getH_same, getH_ne, forceV_eq, Option.elim_some, List.getElem?_cons_zero, List.getElem?_cons_succ, Yld.val, if_true, Nat.zero_add, Nat.add_zero, dMmap_noneQ]
  generalize hK : hs (hs H nx (some (.cells [.slice q.HA q.head.length q.hc, .int .i64 q.agg, .string q.aggvar, .slice q.RA q.rules.length q.rc, .slice q.OA q.order.length q.oc] 0))) (nx + 1) (some (.map [] 0)) = K
  have kM : getH K (nx + 1) = some (.map [] 0) := by rw [← hK, getH_same]
  have kE : Ext H nx K (nx + 1 + 1) := ⟨by omega, fun i hi => by rw [← hK, getH_ne _ (by omega), getH_ne _ (by omega)]⟩
  have kq : getH K nx = some (.cells [.slice q.HA q.head.length q.hc, .int .i64 q.agg, .string q.aggvar, .slice q.RA q.rules.length q.rc, .slice q.OA q.order.length q.oc] 0) := by rw [← hK, getH_ne _ (by omega), getH_same]
  refine wLoop_rule (m := q.order.length) (fun m L H' nx' => ∃ i : Nat, m + i = q.order.length ∧ L = [.int .i64 (i : Int)] ∧ X = orderC q.head (V.take i) (V.drop i) ∧ (V.take i).Nodup ∧ (∀ v ∈ V.take i, v ∈ q.head) ∧ (∃ S : ByteArray → Bool, SetM H' (nx + 1) S ∧ ∀ s, S s = true ↔ s ∈ V.take i) ∧ nx + 2 ≤ nx' ∧ ∀ z, z ≤ nx → getH H' z = getH K z) ?_
    ⟨0, rfl, rfl, by simpa using hX.symm, by simp, by simp, ⟨_, SetM.nil kM, fun s => by simp⟩, by omega, fun z _ => rfl⟩
  rintro m ih L H2 nx2 ⟨i, hm, rfl, hc, hnd, hsub, ⟨S, hS, hSs⟩, hn2, hlow⟩ hih
  have hE2 : Ext H nx H2 nx2 := ⟨by omega, fun z hz => (hlow z (by omega)).trans (kE.get z hz)⟩
  have hg2 := (hlow nx (Nat.le_refl _)).trans kq
  simp (disch := first | omega | assumption | exact shr_lt (by assumption) | exact ndiff32 (by assumption) | exact below_lt (by omega) | fail) only [List.getD_cons_zero, wBin_lss, wIf_bool]
  by_cases hi : i < q.order.length
  case neg =>
    have hi' : ¬ (i : Int) < (q.order.length : Int) := by omega
    rw [List.drop_eq_nil_of_le (by omega), orderC] at hc
    simp (disch := first | omega | assumption | exact shr_lt (by assumption) | exact ndiff32 (by assumption) | exact below_lt (by omega) | fail) only [decide_false, if_false, Bool.false_eq_true, true_and, hi', hc]
    exact hE2
  have hi' : (i : Int) < (q.order.length : Int) := by omega
  have hi6 : i ≤ 6 := by
    have h1 := List.Nodup.length_le_of_subset hnd fun v hv => hsub v hv
    rw [List.length_take] at h1
    omega
  obtain ⟨k, hk⟩ : ∃ k, q.order[i]? = some k := ⟨_, List.getElem?_eq_getElem hi⟩
  have hkV := hVg i k hk
  obtain ⟨b, o, row, hOA, hb, hrow, _, hcell⟩ := Sl.elem (hQ.ext hE2).order keyC_len (by omega) hk
  unfold keyC at hcell
  rw [hOA]
  simp (disch := first | omega | assumption | exact shr_lt (by assumption) | exact ndiff32 (by assumption) | exact below_lt (by omega) | fail) only [oneCells, wLd_2, ldP_cells, cellP_one, getH_same, getH_ne, Option.elim_some, List.getElem?_cons_zero, decide_true, if_true, Nat.zero_add, true_and, and_self, wBin_add64, wIdx_slice, Int.toNat_natCast, wSt_agg, stP_cells, List.length_cons, List.length_nil, Nat.le_refl, Nat.reduceAdd, hi', ldP_row hrow, hcell, putL_lit2, hg2]
  have hE3 : Ext H2 nx2 (hs (hs H2 nx2 (some (.cells [.string ⟨#[]⟩, .bool false] 0))) nx2 (some (.cells [.string k.var, .bool k.desc] 0))) (nx2 + 1) := ((Ext.refl H2 nx2).new _ (Nat.le_refl _) (by omega) : Ext H2 nx2 _ (nx2 + 1)).hs (Nat.le_refl _)
  have hg3 : getH (hs (hs H2 nx2 (some (.cells [.string ⟨#[]⟩, .bool false] 0))) nx2 (some (.cells [.string k.var, .bool k.desc] 0))) nx2 = some (.cells [.string k.var, .bool k.desc] 0) := getH_same _ _ _
  have hS3 := hS.ext (by omega) hE3
  have hlow3 : ∀ z, z ≤ nx → getH (hs (hs H2 nx2 (some (.cells [.string ⟨#[]⟩, .bool false] 0))) nx2 (some (.cells [.string k.var, .bool k.desc] 0))) z = getH K z := fun z hz => (hE3.get z (by omega)).trans (hlow z hz)
  generalize hs (hs H2 nx2 (some (.cells [.string ⟨#[]⟩, .bool false] 0))) nx2 (some (.cells [.string k.var, .bool k.desc] 0)) = H3 at hE3 hg3 hS3 hlow3 ⊢
  have hEE3 := hE2.trans hE3
  rw [drop_consB hkV] at hc
  refine wCall_rule (contains23 q.HA q.head k.var q.hc H3 (nx2 + 1) (hQ.head.ext hEE3) (by omega)) ?_
  rintro _ _ _ ⟨rfl, rfl, rfl⟩
  by_cases hmem : k.var ∈ q.head
  case neg =>
    have dm : decide (0 ≤ idxOf q.head k.var) = false := by rw [in_idx]; exact decide_eq_false hmem
    rw [orderC, if_neg hmem] at hc
    rw [dm]
    simp (disch := first | omega | assumption | exact shr_lt (by assumption) | exact ndiff32 (by assumption) | exact below_lt (by omega) | fail) only [wIf_bool, wUn_not, if_true, true_and, Bool.not_false, hc]
    exact hEE3
  have dm : decide (0 ≤ idxOf q.head k.var) = true := by rw [in_idx]; exact decide_eq_true hmem
  rw [orderC, if_pos hmem] at hc
  rw [dm]
  cases hv : S k.var with
  | true =>
    rw [if_pos ((hSs _).1 hv)] at hc
    simp (disch := first | omega | assumption | exact shr_lt (by assumption) | exact ndiff32 (by assumption) | exact below_lt (by omega) | fail) only [wIf_bool, wUn_not, ldP_cells, cellP_one, Option.elim_some, List.getElem?_cons_zero, if_true, if_false, Bool.false_eq_true, true_and, Bool.not_true, hg3, hS3.lk, hv, hc]
    exact hEE3
  | false =>
    have hnm : k.var ∉ V.take i := fun h => by rw [(hSs _).2 h] at hv; cases hv
    rw [if_neg hnm] at hc
    simp (disch := first | omega | assumption | exact shr_lt (by assumption) | exact ndiff32 (by assumption) | exact below_lt (by omega) | fail) only [wIf_bool, wUn_not, ldP_cells, cellP_one, Option.elim_some, List.getElem?_cons_zero, if_false, Bool.false_eq_true, Bool.not_true, hg3, hS3.lk, hv]
    refine hS3.put k.var ?_
    intro blk hput
    refine hih (m - 1) _ _ _ (by omega) ⟨i + 1, by omega, by simp, ?_, ?_, ?_, ⟨_, hput, fun s => ?_⟩, by omega, fun z hz => by rw [getH_ne _ (by omega)]; exact hlow3 z hz⟩
    · rw [take_snocB hkV]; exact hc
    · rw [take_snocB hkV]
      rw [List.nodup_append]
      refine ⟨hnd, by simp, ?_⟩
      intro a ha b hb
      rw [List.mem_singleton] at hb
      subst hb
      rintro rfl
      exact hnm ha
    · intro v hv2
      rw [take_snocB hkV, List.mem_append, List.mem_singleton] at hv2
      rcases hv2 with h | rfl
      · exact hsub v h
      · exact hmem
    · rw [Bool.or_eq_true, hSs, decide_eq_true_eq, take_snocB hkV, List.mem_append, List.mem_singleton]

/-- The strings are short. -/
structure QueryS (q : QueryR) : Prop where
  head : ∀ s ∈ q.head, s.size ≤ 100
  agg : q.aggvar.size ≤ 100
  rules : ∀ r ∈ q.rules, RuleS r

set_option maxHeartbeats 2000000 in
theorem check17 (q : QueryR) (H : Heap) (nx : Nat) (hQ : QueryOK H nx q) (hz9 : QueryS q) :
    Ans Tryz.prog 17 [.agg ⟨queryC q⟩] H nx fun v H' nx' => .int .i64 (qcode q) = v ∧ Ext H nx H' nx' := by
  refine spec17 ?_
  unfold F17
  unfold queryC
  generalize hX : qcode q = X
  have hE1 : Ext H nx (hs H nx (some (.cells [.slice q.HA q.head.length q.hc, .int .i64 q.agg, .string q.aggvar, .slice q.RA q.rules.length q.rc, .slice q.OA q.order.length q.oc] 0))) (nx + 1) := (Ext.refl H nx).new _ (Nat.le_refl _) (by omega)
  have hg1 : getH (hs H nx (some (.cells [.slice q.HA q.head.length q.hc, .int .i64 q.agg, .string q.aggvar, .slice q.RA q.rules.length q.rc, .slice q.OA q.order.length q.oc] 0))) nx = some (.cells [.slice q.HA q.head.length q.hc, .int .i64 q.agg, .string q.aggvar, .slice q.RA q.rules.length q.rc, .slice q.OA q.order.length q.oc] 0) := getH_same _ _ _
  by_cases h0 : q.rules.length = 0
  · have d0 : decide (q.rules.length = 0) = true := decide_eq_true h0
    have e : X = 10 := by rw [← hX, qcode, if_pos h0]
    simp (disch := first | omega | assumption | exact shr_lt (by assumption) | exact ndiff32 (by assumption) | exact below_lt (by omega) | fail) only [wBin_gtr, wBin_eql, wBin_neq, wIf_bool, wGuard_true, wGuard_false, wFld_eq, wLen_slice, wNew_eq, dBox_agg, oneCells, wLd_none, ldP_cells, cellP_one, getH_same, forceV_eq, Option.elim_some, List.getElem?_cons_zero, List.getElem?_cons_succ, Yld.val, if_true, Nat.zero_add, Nat.add_zero, true_and, u32_eq_zero, d0, e]
    exact hE1
  have d0 : decide (q.rules.length = 0) = false := decide_eq_false h0
  by_cases h12 : 3 < q.rules.length ∨ (1 < q.rules.length ∧ q.agg ≠ 0)
  · have e : X = 12 := by rw [← hX, qcode, if_neg h0, if_pos h12]
    by_cases h3 : 3 < q.rules.length
    · have d1 : (3 : Int) < (q.rules.length : Int) := by omega
      simp (disch := first | omega | assumption | exact shr_lt (by assumption) | exact ndiff32 (by assumption) | exact below_lt (by omega) | fail) only [List.getD_cons_zero, wBin_gtr, wBin_eql, wBin_neq, wIf_bool, wGuard_true, wGuard_false, wFld_eq, wLen_slice, wNew_eq, dBox_agg, oneCells, wLd_none, ldP_cells, cellP_one, getH_same, forceV_eq, Option.elim_some, List.getElem?_cons_zero, List.getElem?_cons_succ, Yld.val, decide_true, if_true, if_false, Bool.false_eq_true, Nat.zero_add, Nat.add_zero, true_and, u32_eq_zero, d0, d1, wJoin_eq, e]
      exact hE1
    · have d1 : ¬ (3 : Int) < (q.rules.length : Int) := by omega
      obtain ⟨ha, hb⟩ := h12.resolve_left h3
      have d2 : (1 : Int) < (q.rules.length : Int) := by omega
      have dn : decide (q.agg ≠ 0) = true := decide_eq_true hb
      simp (disch := first | omega | assumption | exact shr_lt (by assumption) | exact ndiff32 (by assumption) | exact below_lt (by omega) | fail) only [List.getD_cons_zero, wBin_gtr, wBin_eql, wBin_neq, wIf_bool, wGuard_true, wGuard_false, wFld_eq, wLen_slice, wNew_eq, dBox_agg, oneCells, wLd_none, ldP_cells, cellP_one, getH_same, forceV_eq, Option.elim_some, List.getElem?_cons_zero, List.getElem?_cons_succ, Yld.val, decide_true, decide_false, if_true, if_false, Bool.false_eq_true, Nat.zero_add, Nat.add_zero, true_and, u32_eq_zero, d0, d1, d2, wJoin_eq, e, dn]
      exact hE1
  have hstep : (decide ((3 : Int) < (q.rules.length : Int)) = false) ∧ ((decide ((1 : Int) < (q.rules.length : Int)) = false) ∨ (decide ((1 : Int) < (q.rules.length : Int)) = true ∧ decide (q.agg ≠ 0) = false)) := by
    refine ⟨decide_eq_false (by omega), ?_⟩
    by_cases h1 : 1 < q.rules.length
    · refine .inr ⟨decide_eq_true (by omega), decide_eq_false fun h => h12 (.inr ⟨h1, h⟩)⟩
    · exact .inl (decide_eq_false (by omega))
  have hr3 : q.rules.length ≤ 3 := by omega
  have d1 : ¬ (3 : Int) < (q.rules.length : Int) := by omega
  have e0 : X = if headCode q.head ≠ 0 then headCode q.head else if aggCode q.agg q.aggvar ≠ 0 then aggCode q.agg q.aggvar else if firstC (q.rules.map (ruleCode (neededOf q))) ≠ 0 then firstC (q.rules.map (ruleCode (neededOf q))) else orderC q.head [] (q.order.map KeyR.var) := by
    rw [← hX, qcode, if_neg h0, if_neg h12]
  clear hX
  have dz : decide ((0 : Int) ≠ 0) = false := by decide
  simp (disch := first | omega | assumption | exact shr_lt (by assumption) | exact ndiff32 (by assumption) | exact below_lt (by omega) | fail) only [wBin_gtr, wBin_eql, wBin_neq, wIf_bool, wGuard_true, wGuard_false, wFld_eq, wLen_slice, wNew_eq, dBox_agg, oneCells, wLd_none, ldP_cells, cellP_one, getH_same, forceV_eq, Option.elim_some, List.getElem?_cons_zero, List.getElem?_cons_succ, Yld.val, if_true, if_false, Bool.false_eq_true, Nat.zero_add, Nat.add_zero, u32_eq_zero, d0]
  generalize hs H nx (some (.cells [.slice q.HA q.head.length q.hc, .int .i64 q.agg, .string q.aggvar, .slice q.RA q.rules.length q.rc, .slice q.OA q.order.length q.oc] 0)) = H1 at hE1 hg1 ⊢
  refine wJoin_rule (fun L H' nx' => L = [.bool false] ∧ H1 = H' ∧ nx + 1 = nx') ?_ ?_
  · intro tj hj
    have := hj _ _ _ ⟨rfl, rfl, rfl⟩
    by_cases h1 : 1 < q.rules.length
    · have hb : q.agg = 0 := Classical.byContradiction fun h => h12 (.inr ⟨h1, h⟩)
      have d2 : (1 : Int) < (q.rules.length : Int) := by omega
      simp (disch := first | omega | assumption | exact shr_lt (by assumption) | exact ndiff32 (by assumption) | exact below_lt (by omega) | fail) only [decide_true, decide_false, if_true, if_false, Bool.false_eq_true, d1, d2, hb, dz]
      exact this
    · have d2 : ¬ (1 : Int) < (q.rules.length : Int) := by omega
      simp (disch := first | omega | assumption | exact shr_lt (by assumption) | exact ndiff32 (by assumption) | exact below_lt (by omega) | fail) only [decide_false, if_false, Bool.false_eq_true, d1, d2]
      exact this
  rintro _ _ _ ⟨rfl, rfl, rfl⟩
  simp (disch := first | omega | assumption | exact shr_lt (by assumption) | exact ndiff32 (by assumption) | exact below_lt (by omega) | fail) only [List.getD_cons_zero, wIf_bool, ldP_cells, cellP_one, Option.elim_some, List.getElem?_cons_zero, if_false, Bool.false_eq_true, hg1]
  refine wCall_rule (head41 q.HA q.head q.hc H1 (nx + 1) (hQ.head.ext hE1) (hQ.headH.ext hE1) hQ.hcap hz9.head) ?_
  rintro _ _ _ ⟨rfl, rfl, rfl⟩
  by_cases hc1 : headCode q.head = 0
  case neg =>
    have d : decide (headCode q.head ≠ 0) = true := decide_eq_true hc1
    rw [if_pos hc1] at e0
    simp (disch := first | omega | assumption | exact shr_lt (by assumption) | exact ndiff32 (by assumption) | exact below_lt (by omega) | fail) only [wBin_neq, wIf_bool, if_true, true_and, d, e0]
    exact hE1
  rw [if_neg (by simpa using hc1)] at e0
  have hh6 : q.head.length ≤ 6 := by
    unfold headCode at hc1
    split at hc1
    · cases hc1
    · omega
  rw [hc1]
  simp (disch := first | omega | assumption | exact shr_lt (by assumption) | exact ndiff32 (by assumption) | exact below_lt (by omega) | fail) only [wBin_neq, wIf_bool, ldP_cells, if_false, Bool.false_eq_true, dz, wLd_5, hg1, cellP_lit5]
  refine wCall_rule (agg42 q H1 (nx + 1) hz9.agg) ?_
  rintro _ H2 nx2 ⟨rfl, hE2⟩
  have hEE2 := hE1.trans hE2
  have hn2 := hE2.le
  have hg2 := (hE2.get nx (by omega)).trans hg1
  by_cases hc2 : aggCode q.agg q.aggvar = 0
  case neg =>
    have d : decide (aggCode q.agg q.aggvar ≠ 0) = true := decide_eq_true hc2
    rw [if_pos hc2] at e0
    simp (disch := first | omega | assumption | exact shr_lt (by assumption) | exact ndiff32 (by assumption) | exact below_lt (by omega) | fail) only [wBin_neq, wIf_bool, if_true, true_and, d, e0]
    exact hEE2
  rw [if_neg (by simpa using hc2)] at e0
  rw [hc2]
  simp (disch := first | omega | assumption | exact shr_lt (by assumption) | exact ndiff32 (by assumption) | exact below_lt (by omega) | fail) only [wBin_neq, wIf_bool, ldP_cells, if_false, Bool.false_eq_true, dz, hg2, cellP_lit5]
  refine wCall_rule (rules43 q H2 nx2 (hQ.ext hEE2) hz9.rules hh6 hr3) ?_
  rintro _ H3 nx3 ⟨rfl, hE3⟩
  have hEE3 := hEE2.trans hE3
  have hg3 := (hE3.get nx (by omega)).trans hg2
  by_cases hc3 : firstC (q.rules.map (ruleCode (neededOf q))) = 0
  case neg =>
    have d : decide (firstC (q.rules.map (ruleCode (neededOf q))) ≠ 0) = true := decide_eq_true hc3
    rw [if_pos hc3] at e0
    simp (disch := first | omega | assumption | exact shr_lt (by assumption) | exact ndiff32 (by assumption) | exact below_lt (by omega) | fail) only [wBin_neq, wIf_bool, if_true, true_and, d, e0]
    exact hEE3
  rw [if_neg (by simpa using hc3)] at e0
  rw [hc3]
  simp (disch := first | omega | assumption | exact shr_lt (by assumption) | exact ndiff32 (by assumption) | exact below_lt (by omega) | fail) only [wBin_neq, wIf_bool, ldP_cells, if_false, Bool.false_eq_true, dz, hg3, cellP_lit5]
  refine wCall_rule (order44 q H3 nx3 (hQ.ext hEE3) hh6) ?_
  rintro _ H4 nx4 ⟨rfl, hE4⟩
  simp (disch := first | omega | assumption | exact shr_lt (by assumption) | exact ndiff32 (by assumption) | exact below_lt (by omega) | fail) only [true_and, e0]
  exact hEE3.trans hE4
end Go.Proofs.YthbdeaeghipliaaGreatDoor

set_option linter.unusedSimpArgs false
set_option linter.unusedVariables false
set_option linter.unusedSectionVars false
namespace Go.Proofs.YthbdeaeghipliaaGreatDoor
open Go.Clo

theorem wApp_own {H : Heap} {nx size bytes b n : Nat} {c : List Value} {x : Value} {m : Nat} {l : List Value} {k : EP} (hsz : 0 < size) (h4 : getH H b = some (.cells c size)) (hl : c.length = n * size) (hx : Go.Clo.Src H size x m l) (hm : 0 < m) (ho : oneCells l = true)
    (hb1 : (2 * (n + m) + 1000) * bytes ≤ 281474976710656) (hb2 : n + m ≤ 1000000000) : wApp (.slice (some ⟨b, 0, none⟩) n n) x size bytes H nx k = k (.slice (some ⟨nx, 0, none⟩) (n + m) (n + m)) (hs (hs H b none) nx (some (.cells (c ++ l) size))) (nx + 1) := by
  have hlen : (c ++ l).length = (n + m) * size := by rw [List.length_append, hl, hx.size, Nat.add_mul]
  unfold wApp appK
  rw [hx.len]
  dsimp only
  rw [forceN_eq, bltrue hb1, bltrue hb2]
  simp only [Bool.and_self, cond_true]
  rw [hx.first, ho, blfalse (show n < n + m by omega)]
  simp only [cond_true, cond_false]
  have hold : ∀ k : List Value → Prop, firstK H size n (.slice (some ⟨b, 0, none⟩) n n) False k = k c := firstK_lit hsz h4 hl
  rw [hold, spine_eq, hlen, beqtrue]
  simp only [cond_true, appOut]
  rw [getB_eq, h4]
  simp only [Option.elim_some]
  have hls : looseA (.cells c size) 0 n size = some true := by
    simp only [looseA]
    rw [beqfalse (show size ≠ 0 by omega), beqtrue]
    simp only [cond_false, cond_true]
    rw [hl, Nat.zero_add, beqtrue]
  rw [hls]
  dsimp only
  rw [hsK_eq]
  simp only [appNew]
  rw [forceN_eq, forceN_eq, hsK_eq]

/-- A slice of one's own, not at block r: from block lo on. -/
def KL (sz r lo : Nat) (H : Heap) (nx : Nat) (v : Value) (c : List Value) : Prop :=
  (c = [] ∧ v = .slice none 0 0) ∨ ∃ b n sl, lo ≤ b ∧ b < nx ∧ b ≠ r ∧ v = .slice (some ⟨b, 0, none⟩) n n ∧ c.length = n * sz ∧ getH H b = some (.cells c sl) ∧ (sl = 0 ∨ sl = sz)
theorem KL.ext {sz r lo : Nat} {H : Heap} {nx : Nat} {v : Value} {c : List Value} {H' : Heap} {nx' : Nat} (h : KL sz r lo H nx v c) (e : Ext H nx H' nx') : KL sz r lo H' nx' v c := by
  refine h.imp id ?_
  rintro ⟨b, n, sl, h1, h2, h3, h4, h5, h6, h7⟩
  have := e.le
  exact ⟨b, n, sl, h1, by omega, h3, h4, h5, by rw [e.get b h2]; exact h6, h7⟩
theorem KL.sl {sz r lo : Nat} {H : Heap} {nx : Nat} {v : Value} {c : List Value} {n : Nat} (h : KL sz r lo H nx v c) (hsz : 0 < sz) (hn : c.length = n * sz) : ∃ A, v = .slice A n n ∧ Sl H nx A c ∧ ∀ a, A = some a → lo ≤ a.block := by
  rcases h with ⟨rfl, rfl⟩ | ⟨b, n', sl, h1, h2, h3, rfl, h5, h6, h7⟩
  · have : n = 0 := by
      simp only [List.length_nil] at hn
      rcases Nat.mul_eq_zero.1 hn.symm with h | h
      · exact h
      · omega
    subst this
    exact ⟨none, rfl, Sl.nil _ _ _, fun a e => by cases e⟩
  · have : n' = n := Nat.eq_of_mul_eq_mul_right hsz (by omega)
    subst this
    exact ⟨_, rfl, Go.Clo.sl_new h2 h6, fun a e => by cases e; exact h1⟩
theorem wApp_KL {sz r lo : Nat} {H : Heap} {nx bytes : Nat} {v x : Value} {c l : List Value} {m : Nat} {H0 : Heap} {k : EP} (hsz : 0 < sz) (hA : KL sz r lo H nx v c) (hx : Go.Clo.Src H sz x m l) (hm : 0 < m) (ho : oneCells l = true) (hby : bytes ≤ 24) (hlen : c.length ≤ 100000) (hm2 : m ≤ 1000) (hE : Ext H0 lo H nx) (hlo : lo ≤ nx) (hr : r < nx)
    (hk : ∀ v' H', KL sz r lo H' (nx + 1) v' (c ++ l) → Ext H0 lo H' (nx + 1) → getH H' r = getH H r → k v' H' (nx + 1)) : wApp v x sz bytes H nx k := by
  have hbb : ∀ n : Nat, n ≤ 100000 → (2 * (n + m) + 1000) * bytes ≤ 281474976710656 := fun n hn => by
    have := Nat.mul_le_mul (show 2 * (n + m) + 1000 ≤ 300000 by omega) hby
    omega
  rcases hA with ⟨rfl, rfl⟩ | ⟨b, n, sl, h1, h2, h3, rfl, h5, h6, h7⟩
  · refine wApp_acc (lo := nx) (H0 := H) hsz (Acc.nil _ _ _ _) hx hm ho (hbb 0 (by omega)) (by omega) (Ext.refl _ _) (Nat.le_refl _) fun v' H' h1 h2 h3 => ?_
    refine hk v' H' (.inr ?_) ⟨by omega, fun i hi => (h2.get i (by omega)).trans (hE.get i hi)⟩ (h2.get r hr)
    rcases h1.2 with ⟨h4, _⟩ | ⟨b, h4, h5, h6, h7⟩
    · omega
    · exact ⟨b, _, sz, by omega, h5, by omega, h6, h1.1, h7, .inr rfl⟩
  · have hn : n ≤ 100000 := Nat.le_trans (Nat.le_mul_of_pos_right n hsz) (by omega)
    have hl2 : (c ++ l).length = (n + m) * sz := by rw [List.length_append, h5, hx.size, Nat.add_mul]
    rcases h7 with rfl | rfl
    · rw [wApp_lit hsz h6 h5 hx hm ho (hbb n hn) (by omega)]
      exact hk _ _ (.inr ⟨nx, _, sz, hlo, by omega, by omega, rfl, hl2, getH_same _ _ _, .inr rfl⟩) (hE.new _ hlo (by omega)) (getH_ne _ (by omega))
    · rw [wApp_own hsz h6 h5 hx hm ho (hbb n hn) (by omega)]
      refine hk _ _ (.inr ⟨nx, _, sl, hlo, by omega, by omega, rfl, hl2, getH_same _ _ _, .inr rfl⟩) ((hE.new _ h1 (Nat.le_refl _)).new _ hlo (by omega)) ?_
      rw [getH_ne _ (by omega), getH_ne _ (fun h => h3 h.symm)]

theorem oneCells_keys : ∀ l : List KeyR, oneCells (l.flatMap keyC) = true
  | [] => rfl
  | k :: l => oneCells_keys l
theorem keys_len (l : List KeyR) : (l.flatMap keyC).length = l.length * 2 := by
  induction l with
  | nil => rfl
  | cons a l ih => rw [List.flatMap_cons, List.length_append, keyC_len, ih, List.length_cons]; omega
theorem dBsl_k0 (k : List Value → Prop) : dBsl 0 2 [.string ⟨#[]⟩, .bool false] [] k = k [] := by
  rw [dBsl_eq]
  show (if oneCells [] = true then k [] else False) = _
  exact if_pos (show oneCells [] = true from rfl)

theorem clone75 (A : Option Addr) (l : List KeyR) (cap : Nat) (H : Heap) (nx : Nat) (hS : Sl H nx A (l.flatMap keyC)) (hA : Has H nx A) (hl : l.length ≤ 1000) :
    Ans Tryz.prog 75 [.slice A l.length cap] H nx fun v H' nx' => KL 2 nx' nx H' nx' v (l.flatMap keyC) ∧ Ext H nx H' nx' := by
  refine spec75 ?_
  unfold F75
  cases A with
  | none =>
    have hp : l = [] := by
      cases l with
      | nil => rfl
      | cons x r =>
        obtain ⟨b, o, row, e, _⟩ := hS 0 (.string x.var) rfl
        cases e
    subst hp
    simp (disch := first | omega | assumption | exact shr_lt (by assumption) | exact ndiff32 (by assumption) | exact below_lt (by omega) | fail) only [wIf_bool, wNew_eq, forceV_eq, Yld.val, if_true, List.length_nil, wVf_isnil, Option.isNone_none]
    exact ⟨.inl ⟨rfl, rfl⟩, Ext.refl _ _⟩
  | some a =>
    have hX : Ext H nx (hs H nx (some (.cells [] 0))) (nx + 1) := (Ext.refl H nx).new _ (Nat.le_refl _) (by omega)
    simp (disch := first | omega | assumption | exact shr_lt (by assumption) | exact ndiff32 (by assumption) | exact below_lt (by omega) | fail) only [wIf_bool, wNew_eq, forceV_eq, Yld.val, if_false, Bool.false_eq_true, wVf_isnil, Option.isNone_some, dBsl_k0]
    have hx := src_any (cap := cap) (hS.ext hX) (hA.ext hX) (keys_len l) (by omega)
    rcases Nat.eq_zero_or_pos l.length with h0 | h0
    · have : l = [] := List.length_eq_zero_iff.1 h0
      subst this
      rw [wApp_lit0 (n := 0) (getH_same _ _ _) (by rfl) hx (by omega) (by omega)]
      try simp (disch := first | omega | assumption | exact shr_lt (by assumption) | exact ndiff32 (by assumption) | exact below_lt (by omega) | fail) only [List.getD_cons_zero, List.getD_cons_succ, wBin_lss, wBin_leq, wBin_gtr, wBin_geq, wBin_eql, wBin_neq, wIf_bool, wGuard_true, wGuard_false, wPick_true, wPick_false, wUn_not, wFld_eq, wExt_eq, wPart_one, wPart_agg, wLen_slice, wLen_string, wNew_eq, wNm_eq, dBox_agg, dBox_int, dBox_slice, dBox_string, dBox_bool, dBox_map, dBox_ptr, oneCells, wLd_none, wLd_2, wLd_3, wLd_32, ldP_cells, ldP_rom, cellP_one, getH_same, getH_ne, forceV_eq, forceN_eq, hsK_eq, Option.elim_some, List.getElem?_cons_zero, List.getElem?_cons_succ, Yld.val, decide_true, decide_false, if_true, if_false, Bool.false_eq_true, Nat.zero_add, Nat.add_zero, and_true, true_and, or_false, Bool.not_true, Bool.not_false, and_self, wBin_add64, wBin_sub64, wIdx_slice, wIdx_array, wNilc_eq, Int.toNat_natCast, Nat.mul_one, Nat.zero_mul, wSt_agg, wSt_int, wSt_bool, wSt_string, wSt_slice, wSt_ptr, wSt_map, wSt_func, stP_cells, bit_one, bit_zero, bit_one', bit_zero', wBin_shr32, wBin_and1, wBin_rem2, wBin_andNot32, wBin_or32, wBin_and32, wBin_shl32, u32_eq_zero, u32_ne_zero, List.length_cons, List.length_nil, Nat.le_refl, Nat.reduceAdd, Nat.reduceMul, Nat.reduceLeDiff, Int.toNat_zero, Int.toNat_one]
      exact ⟨.inr ⟨nx, 0, 0, Nat.le_refl _, by omega, by omega, rfl, rfl, getH_same _ _ _, .inl rfl⟩, hX.hs (Nat.le_refl _)⟩
    · rw [wApp_lit (n := 0) (by omega) (getH_same _ _ _) (by rfl) hx h0 (oneCells_keys l) (by omega) (by omega)]
      try simp (disch := first | omega | assumption | exact shr_lt (by assumption) | exact ndiff32 (by assumption) | exact below_lt (by omega) | fail) only [Nat.zero_add]
      refine ⟨.inr ⟨nx + 1, 0 + l.length, 2, by omega, by omega, by omega, by simp, by rw [keys_len]; omega, ?_, .inr rfl⟩, hX.new _ (by omega) (by omega)⟩
      rw [getH_same]; rfl
end Go.Proofs.YthbdeaeghipliaaGreatDoor

set_option linter.unusedSimpArgs false
set_option linter.unusedVariables false
set_option linter.unusedSectionVars false
namespace Go.Proofs.YthbdeaeghipliaaGreatDoor
open Go.Clo

open Classical in
noncomputable def restK (q : QueryR) (l : List ByteArray) : List KeyR := (l.filter fun v => decide (v ∉ q.order.map KeyR.var)).map fun v => { var := v, desc := false }
noncomputable def ordK (q : QueryR) : List KeyR := q.order ++ restK q q.head
theorem ordK_var (q : QueryR) : (ordK q).map KeyR.var = ordL q := by
  unfold ordK restK ordL
  rw [List.map_append, List.map_map]
  congr 1
  rw [show (KeyR.var ∘ fun v => ({ var := v, desc := false } : KeyR)) = id from rfl, List.map_id]
theorem restK_snoc (q : QueryR) {l : List ByteArray} {i : Nat} {s : ByteArray} (h : l[i]? = some s) (hm : s ∉ q.order.map KeyR.var) : restK q (l.take (i + 1)) = restK q (l.take i) ++ [{ var := s, desc := false }] := by
  unfold restK
  rw [take_snocB h, List.filter_append, List.map_append, List.filter_cons_of_pos (by simpa using hm)]
  rfl
theorem restK_skip (q : QueryR) {l : List ByteArray} {i : Nat} {s : ByteArray} (h : l[i]? = some s) (hm : s ∈ q.order.map KeyR.var) : restK q (l.take (i + 1)) = restK q (l.take i) := by
  unfold restK
  rw [take_snocB h, List.filter_append, List.filter_cons_of_neg (by simpa using hm), List.filter_nil, List.append_nil]
theorem restK_len (q : QueryR) (l : List ByteArray) : (restK q l).length ≤ l.length := by
  unfold restK
  rw [List.length_map]
  exact List.length_filter_le _ _
theorem wBuild_key (s : ByteArray) (k : VP) : wBuild [.string ⟨#[]⟩, .bool false] [(0, 1), (1, 1)] [(0, .string s)] k = k (.agg ⟨[.string s, .bool false]⟩) := spine_eq _ _
theorem dBsl_key (s : ByteArray) (k : List Value → Prop) : dBsl 1 2 [.string ⟨#[]⟩, .bool false] [(0, .agg ⟨[.string s, .bool false]⟩)] k = k [.string s, .bool false] := rfl

set_option maxHeartbeats 2000000 in
theorem order46 (q : QueryR) (H : Heap) (nx : Nat) (hQ : QueryOK H nx q) (hh6 : q.head.length ≤ 6) (ho6 : q.order.length ≤ 6) :
    Ans Tryz.prog 46 [.agg ⟨queryC q⟩] H nx fun v H' nx' => (∃ A, v = .slice A (ordK q).length (ordK q).length ∧ Sl H' nx' A ((ordK q).flatMap keyC) ∧ ∀ a, A = some a → nx ≤ a.block) ∧ Ext H nx H' nx' := by
  refine spec46 ?_
  unfold F46
  unfold queryC
  have hE1 : Ext H nx (hs H nx (some (.cells [.slice q.HA q.head.length q.hc, .int .i64 q.agg, .string q.aggvar, .slice q.RA q.rules.length q.rc, .slice q.OA q.order.length q.oc] 0))) (nx + 1) := (Ext.refl H nx).new _ (Nat.le_refl _) (by omega)
  have hg1 : getH (hs H nx (some (.cells [.slice q.HA q.head.length q.hc, .int .i64 q.agg, .string q.aggvar, .slice q.RA q.rules.length q.rc, .slice q.OA q.order.length q.oc] 0))) nx = some (.cells [.slice q.HA q.head.length q.hc, .int .i64 q.agg, .string q.aggvar, .slice q.RA q.rules.length q.rc, .slice q.OA q.order.length q.oc] 0) := getH_same _ _ _
  simp (disch := first | omega | assumption | exact shr_lt (by assumption) | exact ndiff32 (by assumption) | exact below_lt (by omega) | fail) only [wFld_eq, wNew_eq, dBox_agg, oneCells, wLd_none, ldP_cells, cellP_one, getH_same, forceV_eq, Option.elim_some, List.getElem?_cons_zero, List.getElem?_cons_succ, Yld.val, if_true, Nat.zero_add, Nat.add_zero]
  generalize hs H nx (some (.cells [.slice q.HA q.head.length q.hc, .int .i64 q.agg, .string q.aggvar, .slice q.RA q.rules.length q.rc, .slice q.OA q.order.length q.oc] 0)) = H1 at hE1 hg1 ⊢
  refine wCall_rule (clone75 q.OA q.order q.oc H1 (nx + 1) (hQ.order.ext hE1) (hQ.orderH.ext hE1) (by omega)) ?_
  rintro v2 H2 nx2 ⟨hv2, hE2⟩
  have hn2 := hE2.le
  have hg2 := (hE2.get nx (by omega)).trans hg1
  have hE12 := hE1.trans hE2
  have kM : getH (hs H2 nx2 (some (.map [] 0))) nx2 = some (.map [] 0) := getH_same _ _ _
  have kE : Ext H2 nx2 (hs H2 nx2 (some (.map [] 0))) (nx2 + 1) := (Ext.refl _ _).new _ (Nat.le_refl _) (by omega)
  simp (disch := first | omega | assumption | exact shr_lt (by assumption) | exact ndiff32 (by assumption) | exact below_lt (by omega) | fail) only [wLen_slice, ldP_cells, cellP_one, getH_ne, Option.elim_some, List.getElem?_cons_zero, List.getElem?_cons_succ, dMmap_noneQ, hg2]
  generalize hs H2 nx2 (some (.map [] 0)) = K at kM kE ⊢
  have hkq := (kE.get nx (by omega)).trans hg2
  refine wLoop_rule (m := q.order.length) (fun m L H' nx' => ∃ i : Nat, m + i = q.order.length ∧ L = [.int .i64 (i : Int)] ∧ (∃ S : ByteArray → Bool, SetM H' nx2 S ∧ ∀ s, S s = true ↔ s ∈ (q.order.take i).map KeyR.var) ∧ nx2 + 1 ≤ nx' ∧ ∀ z, z < nx2 → getH H' z = getH H2 z) ?_
    ⟨0, rfl, rfl, ⟨_, SetM.nil kM, fun s => by simp⟩, by omega, fun z hz => kE.get z hz⟩
  rintro m ih L H3 nx3 ⟨i, hm, rfl, ⟨S, hS, hSs⟩, hn3, hlow⟩ hih
  have hE3 : Ext H2 nx2 H3 nx3 := ⟨by omega, hlow⟩
  have hEE3 := hE12.trans hE3
  have hg3 := (hE3.get nx (by omega)).trans hg2
  simp (disch := first | omega | assumption | exact shr_lt (by assumption) | exact ndiff32 (by assumption) | exact below_lt (by omega) | fail) only [List.getD_cons_zero, wBin_lss, wIf_bool, wBin_add64]
  by_cases hi : i < q.order.length
  case pos =>
    have hi' : (i : Int) < (q.order.length : Int) := by omega
    obtain ⟨k, hk⟩ : ∃ k, q.order[i]? = some k := ⟨_, List.getElem?_eq_getElem hi⟩
    obtain ⟨b, o, row, hOA, hb, hrow, _, hcell⟩ := Sl.elem (hQ.ext hEE3).order keyC_len (by omega) hk
    unfold keyC at hcell
    rw [hOA]
    simp (disch := first | omega | assumption | exact shr_lt (by assumption) | exact ndiff32 (by assumption) | exact below_lt (by omega) | fail) only [oneCells, wLd_2, ldP_cells, cellP_one, getH_same, Option.elim_some, List.getElem?_cons_zero, decide_true, if_true, Nat.zero_add, true_and, and_self, wIdx_slice, Int.toNat_natCast, wSt_agg, stP_cells, List.length_cons, List.length_nil, Nat.le_refl, Nat.reduceAdd, hi', ldP_row hrow, hcell, putL_lit2]
    have hE4 : Ext H3 nx3 (hs (hs H3 nx3 (some (.cells [.string ⟨#[]⟩, .bool false] 0))) nx3 (some (.cells [.string k.var, .bool k.desc] 0))) (nx3 + 1) := ((Ext.refl H3 nx3).new _ (Nat.le_refl _) (by omega) : Ext H3 nx3 _ (nx3 + 1)).hs (Nat.le_refl _)
    have hS4 := hS.ext (by omega) hE4
    generalize hs (hs H3 nx3 (some (.cells [.string ⟨#[]⟩, .bool false] 0))) nx3 (some (.cells [.string k.var, .bool k.desc] 0)) = H4 at hE4 hS4 ⊢
    refine hS4.put k.var ?_
    intro blk hput
    refine hih (m - 1) _ _ _ (by omega) ⟨i + 1, by omega, by simp, ⟨_, hput, fun s => ?_⟩, by omega, fun z hz => by rw [getH_ne _ (by omega), hE4.get z (by omega)]; exact hlow z hz⟩
    rw [Bool.or_eq_true, hSs, decide_eq_true_eq, take_snocB hk, List.map_append, List.mem_append, List.map_cons, List.map_nil, List.mem_singleton]
  have hi' : ¬ (i : Int) < (q.order.length : Int) := by omega
  have et : q.order.take i = q.order := List.take_of_length_le (by omega)
  rw [et] at hSs
  simp (disch := first | omega | assumption | exact shr_lt (by assumption) | exact ndiff32 (by assumption) | exact below_lt (by omega) | fail) only [wLen_slice, ldP_cells, cellP_one, Option.elim_some, List.getElem?_cons_zero, decide_false, if_false, Bool.false_eq_true, hi', hg3]
  have hv3 : KL 2 nx2 (nx + 1) H3 nx3 v2 (q.order.flatMap keyC) := hv2.ext hE3
  have hE13 := hE2.trans hE3
  refine wLoop_rule (m := q.head.length) (fun m L H' nx' => ∃ (j : Nat) (u : Value), m + j = q.head.length ∧ L = [u, .int .i64 (j : Int)] ∧ KL 2 nx2 (nx + 1) H' nx' u ((q.order ++ restK q (q.head.take j)).flatMap keyC) ∧ Ext H1 (nx + 1) H' nx' ∧ SetM H' nx2 S ∧ nx2 < nx') ?_
    ⟨0, v2, rfl, rfl, by simpa [restK] using hv3, hE13, hS, by omega⟩
  rintro m5 ih5 L H5 nx5 ⟨j, u, hm5, rfl, hu, hE5, hS5, hn5⟩ hih5
  have hEE5 := hE1.trans hE5
  simp (disch := first | omega | assumption | exact shr_lt (by assumption) | exact ndiff32 (by assumption) | exact below_lt (by omega) | fail) only [List.getD_cons_zero, List.getD_cons_succ, wBin_lss, wIf_bool, wBin_add64]
  by_cases hj : j < q.head.length
  case neg =>
    have hj' : ¬ (j : Int) < (q.head.length : Int) := by omega
    rw [List.take_of_length_le (by omega)] at hu
    simp (disch := first | omega | assumption | exact shr_lt (by assumption) | exact ndiff32 (by assumption) | exact below_lt (by omega) | fail) only [decide_false, if_false, Bool.false_eq_true, hj']
    obtain ⟨A, rfl, hA, hlo⟩ := hu.sl (n := (ordK q).length) (by omega) (keys_len (ordK q))
    exact ⟨⟨A, rfl, hA, fun a e => by have := hlo a e; omega⟩, hEE5⟩
  have hj' : (j : Int) < (q.head.length : Int) := by omega
  obtain ⟨s, hs⟩ : ∃ s, q.head[j]? = some s := ⟨_, List.getElem?_eq_getElem hj⟩
  obtain ⟨b, o, row, hHA, hb, hrow, hget⟩ := (hQ.head.ext hEE5).open (i := j) (by rw [strs_length]; omega)
  have g0 := hget _ _ (strs_get hs)
  rw [hHA]
  cases hv : S s with
  | true =>
    have hmem := (hSs s).1 hv
    simp (disch := first | omega | assumption | exact shr_lt (by assumption) | exact ndiff32 (by assumption) | exact below_lt (by omega) | fail) only [List.getD_cons_zero, wIf_bool, wUn_not, wLd_none, cellP_one, Option.elim_some, decide_true, if_true, if_false, Bool.false_eq_true, Bool.not_true, wIdx_slice, Int.toNat_natCast, Nat.mul_one, wJoin_eq, hj', ldP_row hrow, g0, hS5.lk, hv]
    refine hih5 (m5 - 1) _ _ _ (by omega) ⟨j + 1, u, by omega, by simp, ?_, hE5, hS5, hn5⟩
    rw [restK_skip q hs hmem]
    exact hu
  | false =>
    have hmem : s ∉ q.order.map KeyR.var := fun h => by rw [(hSs s).2 h] at hv; cases hv
    simp (disch := first | omega | assumption | exact shr_lt (by assumption) | exact ndiff32 (by assumption) | exact below_lt (by omega) | fail) only [List.getD_cons_zero, wIf_bool, wUn_not, wLd_none, cellP_one, Option.elim_some, decide_true, if_true, Bool.not_false, wIdx_slice, Int.toNat_natCast, Nat.mul_one, wJoin_eq, hj', ldP_row hrow, g0, hS5.lk, hv, wBuild_key, dBsl_key]
    have hX : Ext H5 nx5 (Go.Clo.hs H5 nx5 (some (.cells [.string s, .bool false] 0))) (nx5 + 1) := (Ext.refl _ _).new _ (Nat.le_refl _) (by omega)
    have hle : ((q.order ++ restK q (q.head.take j)).flatMap keyC).length ≤ 100000 := by
      have h1 := restK_len q (q.head.take j)
      rw [List.length_take] at h1
      rw [keys_len, List.length_append]
      omega
    refine wApp_KL (H0 := H1) (l := [.string s, .bool false]) (m := 1) (by omega) (hu.ext hX) (src_new (getH_same _ _ _) rfl (by omega)) (by omega) rfl (by omega) hle (by omega) (hE5.trans hX) (by have := hE5.le; omega) (by omega) ?_
    intro v' H' h1 h2 h3
    try simp (disch := first | omega | assumption | exact shr_lt (by assumption) | exact ndiff32 (by assumption) | exact below_lt (by omega) | fail) only [List.getD_cons_zero, List.getD_cons_succ, wBin_lss, wBin_leq, wBin_gtr, wBin_geq, wBin_eql, wBin_neq, wIf_bool, wGuard_true, wGuard_false, wPick_true, wPick_false, wUn_not, wFld_eq, wExt_eq, wPart_one, wPart_agg, wLen_slice, wLen_string, wNew_eq, wNm_eq, dBox_agg, dBox_int, dBox_slice, dBox_string, dBox_bool, dBox_map, dBox_ptr, oneCells, wLd_none, wLd_2, wLd_3, wLd_32, ldP_cells, ldP_rom, cellP_one, getH_same, getH_ne, forceV_eq, forceN_eq, hsK_eq, Option.elim_some, List.getElem?_cons_zero, List.getElem?_cons_succ, Yld.val, decide_true, decide_false, if_true, if_false, Bool.false_eq_true, Nat.zero_add, Nat.add_zero, and_true, true_and, or_false, Bool.not_true, Bool.not_false, and_self, wBin_add64, wBin_sub64, wIdx_slice, wIdx_array, wNilc_eq, Int.toNat_natCast, Nat.mul_one, Nat.zero_mul, wSt_agg, wSt_int, wSt_bool, wSt_string, wSt_slice, wSt_ptr, wSt_map, wSt_func, stP_cells, bit_one, bit_zero, bit_one', bit_zero', wBin_shr32, wBin_and1, wBin_rem2, wBin_andNot32, wBin_or32, wBin_and32, wBin_shl32, u32_eq_zero, u32_ne_zero, List.length_cons, List.length_nil, Nat.le_refl, Nat.reduceAdd, Nat.reduceMul, Nat.reduceLeDiff, Int.toNat_zero, Int.toNat_one]
    refine hih5 (m5 - 1) _ _ _ (by omega) ⟨j + 1, v', by omega, by simp, ?_, h2, (hS5.ext hn5 hX).same h3, by omega⟩
    rw [restK_snoc q hs hmem, ← List.append_assoc, List.flatMap_append]
    exact h1
end Go.Proofs.YthbdeaeghipliaaGreatDoor

set_option linter.unusedSimpArgs false
set_option linter.unusedVariables false
set_option linter.unusedSectionVars false
namespace Go.Proofs.YthbdeaeghipliaaGreatDoor
open Go.Clo

theorem itoa_run1 : runA Tryz.prog noOrc 100 18 [.int .i64 1] = some (.string ⟨#[49]⟩) := by kernel_rfl
theorem itoa_run2 : runA Tryz.prog noOrc 100 18 [.int .i64 2] = some (.string ⟨#[50]⟩) := by kernel_rfl
theorem itoa_run3 : runA Tryz.prog noOrc 100 18 [.int .i64 3] = some (.string ⟨#[51]⟩) := by kernel_rfl
/-- The digit of the number i + 1. -/
def digS (i : Nat) : ByteArray := ⟨#[UInt8.ofNat (49 + i)]⟩
theorem itoa18 (i : Nat) (hi : i < 3) (H : Heap) (nx : Nat) : Ans Tryz.prog 18 [.int .i64 ((i : Int) + 1)] H nx fun v H' nx' => .string (digS i) = v ∧ H = H' ∧ nx = nx' := by
  match i, hi with
  | 0, _ => exact ans_of_run mixed namesOK (noOrc_ok _) itoa_run1 rfl rfl H nx
  | 1, _ => exact ans_of_run mixed namesOK (noOrc_ok _) itoa_run2 rfl rfl H nx
  | 2, _ => exact ans_of_run mixed namesOK (noOrc_ok _) itoa_run3 rfl rfl H nx
end Go.Proofs.YthbdeaeghipliaaGreatDoor

set_option linter.unusedSimpArgs false
set_option linter.unusedVariables false
set_option linter.unusedSectionVars false
namespace Go.Proofs.YthbdeaeghipliaaGreatDoor
open Go.Clo

/-- A slice of one's own from block lo on, not at a block of R; an empty one may lie anywhere. -/
def KP (R : Nat → Prop) (lo : Nat) (H : Heap) (nx : Nat) (v : Value) (c : List Value) : Prop :=
  (c = [] ∧ (v = .slice none 0 0 ∨ ∃ b, b < nx ∧ v = .slice (some ⟨b, 0, none⟩) 0 0 ∧ getH H b = some (.cells [] 0))) ∨
  ∃ b, lo ≤ b ∧ b < nx ∧ ¬ R b ∧ v = .slice (some ⟨b, 0, none⟩) c.length c.length ∧ getH H b = some (.cells c 1)
theorem KP.ext {R : Nat → Prop} {lo : Nat} {H : Heap} {nx : Nat} {v : Value} {c : List Value} {H' : Heap} {nx' : Nat} (h : KP R lo H nx v c) (e : Ext H nx H' nx') : KP R lo H' nx' v c := by
  have := e.le
  rcases h with ⟨hc, h | ⟨b, h2, h3, h4⟩⟩ | ⟨b, h1, h2, h3, h4, h5⟩
  · exact .inl ⟨hc, .inl h⟩
  · exact .inl ⟨hc, .inr ⟨b, by omega, h3, by rw [e.get b h2]; exact h4⟩⟩
  · exact .inr ⟨b, h1, by omega, h3, h4, by rw [e.get b h2]; exact h5⟩
/-- What lies below may be kept from now on. -/
theorem KP.keep {R : Nat → Prop} {lo : Nat} {H : Heap} {nx : Nat} {v : Value} {c : List Value} (h : KP R lo H nx v c) (R' : Nat → Prop) (hR : ∀ i, R' i → nx ≤ i) : KP R' lo H nx v c :=
  h.imp id fun ⟨b, h1, h2, h3, h4, h5⟩ => ⟨b, h1, h2, fun hr => by have := hR b hr; omega, h4, h5⟩
theorem KP.free {R : Nat → Prop} {lo : Nat} {H : Heap} {nx : Nat} {v : Value} {c : List Value} (h : KP R lo H nx v c) : KP (fun _ => False) lo H nx v c :=
  h.imp id fun ⟨b, h1, h2, h3, h4, h5⟩ => ⟨b, h1, h2, id, h4, h5⟩
theorem KP.sl {R : Nat → Prop} {lo : Nat} {H : Heap} {nx : Nat} {v : Value} {c : List Value} (h : KP R lo H nx v c) : ∃ A cap, v = .slice A c.length cap ∧ Sl H nx A c ∧ Has H nx A ∧ (A = none → cap = 0) := by
  rcases h with ⟨rfl, rfl | ⟨b, h2, rfl, h4⟩⟩ | ⟨b, h1, h2, h3, rfl, h5⟩
  · exact ⟨none, 0, rfl, Sl.nil _ _ _, .inl rfl, fun _ => rfl⟩
  · exact ⟨_, 0, rfl, Sl.nil _ _ _, .inr ⟨b, 0, [], rfl, h2, by simp [rowOf, h4, Blk.row]⟩, fun _ => rfl⟩
  · exact ⟨_, _, rfl, Go.Clo.sl_new h2 h5, .inr ⟨b, 0, c, rfl, h2, by simp [rowOf, h5, Blk.row]⟩, fun e => by cases e⟩
theorem wApp_KP {R : Nat → Prop} {lo : Nat} {H : Heap} {nx : Nat} {v x y : Value} {c : List Value} {H0 : Heap} {k : EP} (hA : KP R lo H nx v c) (hx : Go.Clo.Src H 1 x 1 [y]) (ho : oneCells [y] = true) (hlen : c.length ≤ 100000) (hE : Ext H0 lo H nx) (hlo : lo ≤ nx) (hR : ∀ i, R i → i < nx)
    (hk : ∀ v' H', KP R lo H' (nx + 1) v' (c ++ [y]) → Ext H0 lo H' (nx + 1) → (∀ i, R i → getH H' i = getH H i) → (∀ i, i < lo → getH H' i = getH H i) → k v' H' (nx + 1)) : wApp v x 1 16 H nx k := by
  have hRn : ¬ R nx := fun h => by have := hR nx h; omega
  rcases hA with ⟨rfl, rfl | ⟨b, h2, rfl, h4⟩⟩ | ⟨b, h1, h2, h3, rfl, h5⟩
  · refine wApp_acc (lo := nx) (H0 := H) (n := 0) (c := []) (by omega) (Acc.nil _ _ _ _) hx (by omega) ho (by omega) (by omega) (Ext.refl _ _) (Nat.le_refl _) fun v' H' h1 h2 h3 => ?_
    refine hk v' H' (.inr ?_) ⟨by omega, fun i hi => (h2.get i (by omega)).trans (hE.get i hi)⟩ (fun i hi => h2.get i (hR i hi)) fun i hi => h2.get i (by omega)
    rcases h1.2 with ⟨h4, _⟩ | ⟨b, h4, h5, h6, h7⟩
    · omega
    · have hb : b = nx := by omega
      subst hb
      exact ⟨b, hlo, h5, hRn, h6, h7⟩
  · rw [wApp_lit (n := 0) (by omega) h4 (by simp) hx (by omega) ho (by omega) (by omega)]
    exact hk _ _ (.inr ⟨nx, hlo, by omega, hRn, rfl, getH_same _ _ _⟩) (hE.new _ hlo (by omega)) (fun i hi => getH_ne _ (by have := hR i hi; omega)) fun i hi => getH_ne _ (by omega)
  · rw [wApp_own (by omega) h5 (by omega) hx (by omega) ho (by omega) (by omega)]
    refine hk _ _ (.inr ⟨nx, hlo, by omega, hRn, by rw [List.length_append]; rfl, getH_same _ _ _⟩) ((hE.new _ h1 (Nat.le_refl _)).new _ hlo (by omega)) (fun i hi => ?_) fun i hi => ?_
    · rw [getH_ne _ (by have := hR i hi; omega), getH_ne _ (fun h => h3 (by rw [← h]; exact hi))]
    · rw [getH_ne _ (by omega), getH_ne _ (by omega)]
/-- A list of its own blocks stays a list while these blocks stay. -/
theorem acc_keep {lo : Nat} {H : Heap} {nx : Nat} {v : Value} {n : Nat} {c : List Value} (h : Acc lo H nx 1 v n c) : ∃ A, v = .slice A n n ∧ ∀ H' nx', (∀ i, lo ≤ i ∧ i < nx → getH H' i = getH H i) → nx ≤ nx' → Sl H' nx' A c := by
  obtain ⟨hl, h⟩ := h
  rcases h with ⟨rfl, rfl⟩ | ⟨b, h1, h2, rfl, h4⟩
  · have : c = [] := by simpa using hl
    subst this
    exact ⟨none, rfl, fun _ _ _ _ => Sl.nil _ _ _⟩
  · exact ⟨_, rfl, fun H' nx' hk hn => Go.Clo.sl_new (by omega) (by rw [hk b ⟨h1, h2⟩]; exact h4)⟩

/-! Masks. -/
def multiM (m : Nat) : Bool := decide (m ≠ 1 ∧ m ≠ 2 ∧ m ≠ 4)
def sufS (m i : Nat) (v : ByteArray) : ByteArray := if multiM m = true then v ++ (⟨#[46]⟩ ++ digS i) else v
theorem multi_m {m : Nat} (h0 : 0 < m) (hm : m < 8) (k : VP) : (wBin .sub (.int .u32 (m : Int)) (.int .u32 1) fun t => wBin .and (.int .u32 (m : Int)) t fun u => wBin .neq u (.int .u32 0) k) = k (.bool (multiM m)) := by
  have h1 : m = 1 ∨ m = 2 ∨ m = 3 ∨ m = 4 ∨ m = 5 ∨ m = 6 ∨ m = 7 := by omega
  rcases h1 with rfl | rfl | rfl | rfl | rfl | rfl | rfl <;> rfl

/-! The names. -/
open Classical in
noncomputable def bodyN (q : QueryR) (m i : Nat) (r : RuleR) : List ByteArray := if m.testBit i = true then ((varsOf r).filter fun v => decide (v ∉ q.head)).map (sufS m i) else []
noncomputable def bodiesN (q : QueryR) (m : Nat) : Nat → List RuleR → List ByteArray
  | _, [] => []
  | i, r :: l => bodyN q m i r ++ bodiesN q m (i + 1) l
noncomputable def namesOf (q : QueryR) (m : Nat) : List ByteArray := ordL q ++ bodiesN q m 0 q.rules
theorem bodiesN_snoc (q : QueryR) (m : Nat) : ∀ (l : List RuleR) (i : Nat) (r : RuleR), bodiesN q m i (l ++ [r]) = bodiesN q m i l ++ bodyN q m (i + l.length) r
  | [], i, r => by simp [bodiesN]
  | a :: l, i, r => by
    rw [List.cons_append, bodiesN, bodiesN_snoc q m l (i + 1) r, bodiesN, List.append_assoc, List.length_cons]
    congr 3
    omega
end Go.Proofs.YthbdeaeghipliaaGreatDoor

set_option linter.unusedSimpArgs false
set_option linter.unusedVariables false
set_option linter.unusedSectionVars false
namespace Go.Proofs.YthbdeaeghipliaaGreatDoor
open Go.Clo
set_option maxRecDepth 100000
/-! 8: ordinal/explain.Refusal -/
def d8 : D :=
  (.seq
    (.ops [
        (none, [⟨none, some 2, .a (.box (.s 0))⟩,
        ⟨none, some 3, .a (.box (.s 1))⟩,
        ⟨none, some 4, .p (.mv (.c (.string ⟨#[]⟩)))⟩,
        ⟨none, some 5, .p (.mv (.c (.int .i64 0)))⟩])] (.one .nil))
    (.seq
      (.seq
        (.ops [
            (none, [⟨none, some 11, .r (.ld (.s 2) (some 5))⟩,
            ⟨none, some 12, .e (.call (.c (.func (.func 17) ⟨[]⟩ ⟨[]⟩)) [.s 11])⟩,
            ⟨none, some 6, .p (.mv (.s 12))⟩])] (.one .nil))
        (.seq
          (.ops [
              (none, [⟨none, some 13, .p (.mv (.s 6))⟩,
              ⟨none, some 14, .p (.bin .neq (.s 13) (.c (.int .i64 0)))⟩])] (.one .nil))
          (.cond (.s 14)
            (.seq
              (.ops [
                  (none, [⟨none, some 15, .p (.mv (.s 6))⟩,
                  ⟨none, some 4, .p (.mv (.c (.string ⟨#[]⟩)))⟩,
                  ⟨none, some 5, .p (.mv (.s 15))⟩])] (.one .nil))
              .ret)
            .skip)))
      (.seq
        (.join [27] [16, 17, 18, 19, 20, 21, 22, 23, 24, 25, 26]
          (.ops [
              (none, [⟨none, some 16, .p (.fld (.s 3) 0)⟩,
              ⟨none, some 17, .r (.ld (.s 16) none)⟩,
              ⟨none, some 18, .p (.bin .eql (.s 17) (.c (.int .u32 0)))⟩,
              ⟨none, some 19, .p (.mv (.s 18))⟩]),
              (some (19, false), [⟨none, some 20, .p (.fld (.s 3) 0)⟩,
              ⟨none, some 21, .r (.ld (.s 20) none)⟩,
              ⟨none, some 22, .p (.fld (.s 2) 3)⟩,
              ⟨none, some 23, .r (.ld (.s 22) none)⟩,
              ⟨none, some 24, .r (.len (.s 23) 0)⟩,
              ⟨none, some 25, .p (.bin .shr (.s 21) (.s 24))⟩,
              ⟨none, some 26, .p (.bin .neq (.s 25) (.c (.int .u32 0)))⟩]),
              (none, [⟨none, some 27, .p (.pick (.s 19) (.c (.bool true)) (.s 26))⟩])] (.one (.tst (.one .nil) (.one .nil))))
          (.cond (.s 27)
            (.seq
              (.ops [
                  (none, [⟨none, some 4, .p (.mv (.c (.string ⟨#[]⟩)))⟩,
                  ⟨none, some 5, .p (.mv (.c (.int .i64 3)))⟩])] (.one .nil))
              .ret)
            .skip))
        (.seq
          (.ops [
              (none, [⟨none, some 28, .a (.bsl 0 1 [.string ⟨#[]⟩] [])⟩,
              ⟨none, some 7, .p (.mv (.s 28))⟩])] (.one .nil))
          (.seq
            (.seq
              (.ops [
                  (none, [⟨none, some 29, .p (.fld (.s 2) 3)⟩,
                  ⟨none, some 30, .r (.ld (.s 29) none)⟩,
                  ⟨none, some 31, .r (.len (.s 30) 0)⟩,
                  ⟨none, some 32, .p (.mv (.c (.int .i64 0)))⟩])] (.one .nil))
              (.block 0
                (.loop [7, 32] [8, 33, 34, 35, 36, 37, 38, 39, 40, 41, 42, 43, 44, 45, 46, 47]
                  (.seq
                    (.ops [
                        (none, [⟨none, some 33, .p (.bin .lss (.s 32) (.s 31))⟩])] (.one .nil))
                    (.seq
                      (.cond (.s 33)
                        .skip
                        (.exit 0))
                      (.join [7] [8, 34, 35, 36, 37, 38, 39, 40, 41, 42, 43, 44, 45, 46]
                        (.block 1
                          (.seq
                            (.ops [
                                (none, [⟨none, some 34, .p (.mv (.s 32))⟩,
                                ⟨none, some 8, .p (.mv (.s 34))⟩])] (.one .nil))
                            (.seq
                              (.ops [
                                  (none, [⟨none, some 35, .p (.fld (.s 3) 0)⟩,
                                  ⟨none, some 36, .r (.ld (.s 35) none)⟩,
                                  ⟨none, some 37, .p (.mv (.s 8))⟩,
                                  ⟨none, some 38, .p (.bin .shr (.s 36) (.s 37))⟩,
                                  ⟨none, some 39, .p (.bin .and (.s 38) (.c (.int .u32 1)))⟩,
                                  ⟨none, some 40, .p (.bin .eql (.s 39) (.c (.int .u32 1)))⟩])] (.one .nil))
                              (.cond (.s 40)
                                (.ops [
                                    (none, [⟨none, some 41, .p (.mv (.s 7))⟩,
                                    ⟨none, some 42, .p (.mv (.s 8))⟩,
                                    ⟨none, some 43, .p (.bin .add (.s 42) (.c (.int .i64 1)))⟩,
                                    ⟨none, some 44, .e (.call (.c (.func (.func 18) ⟨[]⟩ ⟨[]⟩)) [.s 43])⟩,
                                    ⟨none, some 45, .a (.bsl 1 1 [.string ⟨#[]⟩] [(0, .s 44)])⟩,
                                    ⟨none, some 46, .e (.app (.s 41) (.s 45) 1 16)⟩,
                                    ⟨none, some 7, .p (.mv (.s 46))⟩])] (.one .nil))
                                .skip))))
                        (.ops [
                            (none, [⟨none, some 47, .p (.bin .add (.s 32) (.c (.int .i64 1)))⟩,
                            ⟨none, some 32, .p (.mv (.s 47))⟩])] (.one .nil))))))))
            (.seq
              (.draw [0, 0, 2, 7, 0, 16, 63, 127, 255, 255, 511, 2047] [
                  (none, [⟨none, some 49, .r (.ld (.s 2) (some 5))⟩,
                  ⟨none, some 50, .p (.fld (.s 3) 0)⟩,
                  ⟨none, some 51, .r (.ld (.s 50) none)⟩,
                  ⟨none, some 52, .e (.call (.c (.func (.func 19) ⟨[]⟩ ⟨[]⟩)) [.s 49, .s 51])⟩,
                  ⟨none, some 53, .p (.fld (.s 3) 1)⟩,
                  ⟨none, some 54, .r (.ld (.s 53) (some 3))⟩,
                  ⟨none, some 55, .e (.call (.c (.func (.func 14) ⟨[]⟩ ⟨[]⟩)) [.s 52, .s 54])⟩,
                  ⟨none, some 48, .p (.mv (.s 55))⟩,
                  ⟨none, some 56, .p (.ext (.s 48) 0)⟩,
                  ⟨none, some 57, .p (.ext (.s 48) 1)⟩,
                  ⟨none, some 9, .p (.mv (.s 56))⟩,
                  ⟨none, some 10, .p (.mv (.s 57))⟩])] (.one .nil))
              (.seq
                (.seq
                  (.ops [
                      (none, [⟨none, some 58, .p (.mv (.s 10))⟩,
                      ⟨none, some 59, .p (.bin .neq (.s 58) (.c (.int .i64 0)))⟩])] (.one .nil))
                  (.cond (.s 59)
                    (.seq
                      (.ops [
                          (none, [⟨none, some 60, .p (.mv (.s 10))⟩,
                          ⟨none, some 4, .p (.mv (.c (.string ⟨#[]⟩)))⟩,
                          ⟨none, some 5, .p (.mv (.s 60))⟩])] (.one .nil))
                      .ret)
                    .skip))
                (.seq
                  (.ops [
                      (none, [⟨none, some 61, .p (.mv (.s 7))⟩,
                      ⟨none, some 62, .e (.call (.c (.func (.func 20) ⟨[]⟩ ⟨[]⟩)) [.c (.string ⟨#[114, 101, 102, 117, 115, 101, 100]⟩), .s 61])⟩,
                      ⟨none, some 63, .p (.bin .add (.s 62) (.c (.string ⟨#[58, 32]⟩)))⟩,
                      ⟨none, some 64, .p (.mv (.s 9))⟩,
                      ⟨none, some 65, .p (.bin .add (.s 63) (.s 64))⟩,
                      ⟨none, some 4, .p (.mv (.s 65))⟩,
                      ⟨none, some 5, .p (.mv (.c (.int .i64 0)))⟩])] (.one .nil))
                  .ret))))))))
theorem cfn8 : cfn Tryz.prog 8 = some ⟨66, 7, d8.erase, [(.s 4, none), (.s 5, none)]⟩ := by kernel_rfl
theorem ok8 : d8.ok 66 7 = true := by kernel_rfl
noncomputable def F8 (a0 a1 : Value) (H : Heap) (nx : Nat) (k : EP) : Prop :=
  dBox a0 fun tc_1 => wNew (.cells tc_1 0) .ptr H nx fun t2_2 H1 nx1 =>
  dBox a1 fun tc_3 => wNew (.cells tc_3 0) .ptr H1 nx1 fun t3_4 H2 nx2 =>
  wLd t2_2 (some 5) H2 fun t11_5 =>
  wCall Tryz.prog 17 [t11_5] H2 nx2 fun t12_6 H3 nx3 =>
  wBin .neq t12_6 (.int .i64 0) fun t14_7 =>
  wIf t14_7 (
    forceV (.tuple ⟨[(.string ⟨#[]⟩), t12_6]⟩) fun tv_8 => k tv_8 H3 nx3) (
    wJoin (fun tj_9 =>
      wFld t3_4 0 fun t16_11 =>
      wLd t16_11 none H3 fun t17_12 =>
      wBin .eql t17_12 (.int .u32 0) fun t18_13 =>
      wGuard false t18_13 (
        wFld t3_4 0 fun t20_14 =>
        wLd t20_14 none H3 fun t21_15 =>
        wFld t2_2 3 fun t22_16 =>
        wLd t22_16 none H3 fun t23_17 =>
        wLen t23_17 0 H3 fun t24_18 =>
        wBin .shr t21_15 t24_18 fun t25_19 =>
        wBin .neq t25_19 (.int .u32 0) fun t26_20 =>
        tj_9 [t26_20] H3 nx3) (
        tj_9 [(.bool true)] H3 nx3)) (fun tL_10 H4 nx4 =>
      wIf (tL_10.getD 0 undef) (
        forceV (.tuple ⟨[(.string ⟨#[]⟩), (.int .i64 3)]⟩) fun tv_21 => k tv_21 H4 nx4) (
        dBsl 0 1 [.string ⟨#[]⟩] [] fun tc_22 => wNew (.cells tc_22 0) (.slice 0 0) H4 nx4 fun t28_23 H5 nx5 =>
        wFld t2_2 3 fun t29_24 =>
        wLd t29_24 none H5 fun t30_25 =>
        wLen t30_25 0 H5 fun t31_26 =>
        wLoop (fun tih_27 tL_28 H6 nx6 =>
          wBin .lss (tL_28.getD 1 undef) t31_26 fun t33_29 =>
          wIf t33_29 (
            wJoin (fun tj_30 =>
              wFld t3_4 0 fun t35_32 =>
              wLd t35_32 none H6 fun t36_33 =>
              wBin .shr t36_33 (tL_28.getD 1 undef) fun t38_34 =>
              wBin .and t38_34 (.int .u32 1) fun t39_35 =>
              wBin .eql t39_35 (.int .u32 1) fun t40_36 =>
              wIf t40_36 (
                wBin .add (tL_28.getD 1 undef) (.int .i64 1) fun t43_37 =>
                wCall Tryz.prog 18 [t43_37] H6 nx6 fun t44_38 H8 nx8 =>
                dBsl 1 1 [.string ⟨#[]⟩] [(0, t44_38)] fun tc_39 => wNew (.cells tc_39 0) (.slice 1 1) H8 nx8 fun t45_40 H9 nx9 =>
                wApp (tL_28.getD 0 undef) t45_40 1 16 H9 nx9 fun t46_41 H10 nx10 =>
                tj_30 [t46_41] H10 nx10) (
                tj_30 [(tL_28.getD 0 undef)] H6 nx6)) (fun tL_31 H7 nx7 =>
              wBin .add (tL_28.getD 1 undef) (.int .i64 1) fun t47_42 =>
              tih_27 [(tL_31.getD 0 undef), t47_42] H7 nx7)) (
            forceN (nx6 + 12) fun nx11 =>
            wLd t2_2 (some 5) H6 fun t49_43 =>
            wFld t3_4 0 fun t50_44 =>
            wLd t50_44 none H6 fun t51_45 =>
            wCall Tryz.prog 19 [t49_43, t51_45] H6 nx11 fun t52_46 H12 nx12 =>
            wFld t3_4 1 fun t53_47 =>
            wLd t53_47 (some 3) H12 fun t54_48 =>
            wCall Tryz.prog 14 [t52_46, t54_48] H12 nx12 fun t55_49 H13 nx13 =>
            wExt t55_49 0 fun t56_50 =>
            wExt t55_49 1 fun t57_51 =>
            (((((True) ∧ ((wLd t53_47 (some 3) H12 fun tq_54 => tq_54 = t54_48) ∧ ((wLd t53_47 (some 3) H6 fun tq_55 => tq_55 = t54_48) ∧ True))) ∧ (((True) ∧ ((True) ∧ ((wLd t50_44 none H6 fun tq_53 => tq_53 = t51_45) ∧ True))) ∧ (((True) ∧ ((True) ∧ ((wLd t2_2 (some 5) H6 fun tq_52 => tq_52 = t49_43) ∧ True))) ∧ True)))) ∧ (
              wBin .neq t57_51 (.int .i64 0) fun t59_56 =>
              wIf t59_56 (
                forceV (.tuple ⟨[(.string ⟨#[]⟩), t57_51]⟩) fun tv_57 => k tv_57 H13 nx13) (
                wCall Tryz.prog 20 [(.string ⟨#[114, 101, 102, 117, 115, 101, 100]⟩), (tL_28.getD 0 undef)] H13 nx13 fun t62_58 H14 nx14 =>
                wBin .add t62_58 (.string ⟨#[58, 32]⟩) fun t63_59 =>
                wBin .add t63_59 t56_50 fun t65_60 =>
                forceV (.tuple ⟨[t65_60, (.int .i64 0)]⟩) fun tv_61 => k tv_61 H14 nx14))) ∨ False)) [t28_23, (.int .i64 0)] H5 nx5)))
theorem eq8 (a0 a1 : Value) (H : Heap) (nx : Nat) (k : EP) : wBody Tryz.prog 66 7 d8 [(.s 4, none), (.s 5, none)] [a0, a1] H nx k = F8 a0 a1 H nx k := by kernel_rfl
theorem spec8 {a0 a1 : Value} {H : Heap} {nx : Nat} {k : EP} (h : F8 a0 a1 H nx k) : Ans Tryz.prog 8 [a0, a1] H nx k :=
  spec_of_body mixed namesOK cfn8 ok8 (by simp) ((eq8 a0 a1 H nx k).symm ▸ h)

/-! 9: ordinal/ordinallaw56.refused -/
def d9 : D :=
  (.seq
    (.ops [
        (none, [⟨none, some 2, .a (.box (.s 0))⟩,
        ⟨none, some 3, .a (.box (.s 1))⟩,
        ⟨none, some 4, .p (.mv (.c (.string ⟨#[]⟩)))⟩,
        ⟨none, some 5, .p (.mv (.c (.int .i64 0)))⟩])] (.one .nil))
    (.seq
      (.seq
        (.ops [
            (none, [⟨none, some 11, .r (.ld (.s 2) (some 5))⟩,
            ⟨none, some 12, .e (.call (.c (.func (.func 17) ⟨[]⟩ ⟨[]⟩)) [.s 11])⟩,
            ⟨none, some 6, .p (.mv (.s 12))⟩])] (.one .nil))
        (.seq
          (.ops [
              (none, [⟨none, some 13, .p (.mv (.s 6))⟩,
              ⟨none, some 14, .p (.bin .neq (.s 13) (.c (.int .i64 0)))⟩])] (.one .nil))
          (.cond (.s 14)
            (.seq
              (.ops [
                  (none, [⟨none, some 15, .p (.mv (.s 6))⟩,
                  ⟨none, some 4, .p (.mv (.c (.string ⟨#[]⟩)))⟩,
                  ⟨none, some 5, .p (.mv (.s 15))⟩])] (.one .nil))
              .ret)
            .skip)))
      (.seq
        (.join [27] [16, 17, 18, 19, 20, 21, 22, 23, 24, 25, 26]
          (.ops [
              (none, [⟨none, some 16, .p (.fld (.s 3) 0)⟩,
              ⟨none, some 17, .r (.ld (.s 16) none)⟩,
              ⟨none, some 18, .p (.bin .eql (.s 17) (.c (.int .u32 0)))⟩,
              ⟨none, some 19, .p (.mv (.s 18))⟩]),
              (some (19, false), [⟨none, some 20, .p (.fld (.s 3) 0)⟩,
              ⟨none, some 21, .r (.ld (.s 20) none)⟩,
              ⟨none, some 22, .p (.fld (.s 2) 3)⟩,
              ⟨none, some 23, .r (.ld (.s 22) none)⟩,
              ⟨none, some 24, .r (.len (.s 23) 0)⟩,
              ⟨none, some 25, .p (.bin .shr (.s 21) (.s 24))⟩,
              ⟨none, some 26, .p (.bin .neq (.s 25) (.c (.int .u32 0)))⟩]),
              (none, [⟨none, some 27, .p (.pick (.s 19) (.c (.bool true)) (.s 26))⟩])] (.one (.tst (.one .nil) (.one .nil))))
          (.cond (.s 27)
            (.seq
              (.ops [
                  (none, [⟨none, some 4, .p (.mv (.c (.string ⟨#[]⟩)))⟩,
                  ⟨none, some 5, .p (.mv (.c (.int .i64 3)))⟩])] (.one .nil))
              .ret)
            .skip))
        (.seq
          (.draw [0, 0, 2, 7, 0, 16, 48, 0, 128, 399, 1023, 2047, 4095, 4095, 8191, 32767] [
              (none, [⟨none, some 29, .r (.ld (.s 2) (some 5))⟩,
              ⟨none, some 30, .p (.fld (.s 3) 0)⟩,
              ⟨none, some 31, .r (.ld (.s 30) none)⟩,
              ⟨none, some 32, .e (.call (.c (.func (.func 22) ⟨[]⟩ ⟨[]⟩)) [.s 29, .s 31])⟩,
              ⟨none, some 33, .p (.fld (.s 3) 1)⟩,
              ⟨none, some 34, .p (.fld (.s 33) 0)⟩,
              ⟨none, some 35, .r (.ld (.s 34) none)⟩,
              ⟨none, some 36, .p (.fld (.s 3) 1)⟩,
              ⟨none, some 37, .r (.ld (.s 36) (some 3))⟩,
              ⟨none, some 38, .e (.call (.c (.func (.func 23) ⟨[]⟩ ⟨[]⟩)) [.s 37])⟩,
              ⟨none, some 39, .e (.call (.c (.func (.func 21) ⟨[]⟩ ⟨[]⟩)) [.s 32, .s 35, .s 38])⟩,
              ⟨none, some 28, .p (.mv (.s 39))⟩,
              ⟨none, some 40, .p (.ext (.s 28) 0)⟩,
              ⟨none, some 41, .p (.ext (.s 28) 1)⟩,
              ⟨none, some 7, .p (.mv (.s 40))⟩,
              ⟨none, some 8, .p (.mv (.s 41))⟩])] (.one .nil))
          (.seq
            (.seq
              (.ops [
                  (none, [⟨none, some 42, .p (.mv (.s 8))⟩,
                  ⟨none, some 43, .p (.bin .neq (.s 42) (.c (.int .i64 0)))⟩])] (.one .nil))
              (.cond (.s 43)
                (.seq
                  (.ops [
                      (none, [⟨none, some 44, .p (.mv (.s 8))⟩,
                      ⟨none, some 4, .p (.mv (.c (.string ⟨#[]⟩)))⟩,
                      ⟨none, some 5, .p (.mv (.s 44))⟩])] (.one .nil))
                  .ret)
                .skip))
            (.seq
              (.ops [
                  (none, [⟨none, some 9, .p (.mv (.c (.string ⟨#[114, 101, 102, 117, 115, 101, 100]⟩)))⟩])] (.one .nil))
              (.seq
                (.seq
                  (.ops [
                      (none, [⟨none, some 45, .p (.fld (.s 2) 3)⟩,
                      ⟨none, some 46, .r (.ld (.s 45) none)⟩,
                      ⟨none, some 47, .r (.len (.s 46) 0)⟩,
                      ⟨none, some 48, .p (.mv (.c (.int .i64 0)))⟩])] (.one .nil))
                  (.block 0
                    (.loop [9, 48] [10, 49, 50, 51, 52, 53, 54, 55, 56, 57, 58, 59, 60, 61, 62, 63, 64, 65]
                      (.seq
                        (.ops [
                            (none, [⟨none, some 49, .p (.bin .lss (.s 48) (.s 47))⟩])] (.one .nil))
                        (.seq
                          (.cond (.s 49)
                            .skip
                            (.exit 0))
                          (.join [9] [10, 50, 51, 52, 53, 54, 55, 56, 57, 58, 59, 60, 61, 62, 63, 64]
                            (.block 1
                              (.seq
                                (.ops [
                                    (none, [⟨none, some 50, .p (.mv (.s 48))⟩,
                                    ⟨none, some 10, .p (.mv (.s 50))⟩])] (.one .nil))
                                (.seq
                                  (.ops [
                                      (none, [⟨none, some 51, .p (.fld (.s 3) 0)⟩,
                                      ⟨none, some 52, .r (.ld (.s 51) none)⟩,
                                      ⟨none, some 53, .p (.mv (.s 10))⟩,
                                      ⟨none, some 54, .p (.bin .shr (.s 52) (.s 53))⟩,
                                      ⟨none, some 55, .p (.bin .rem (.s 54) (.c (.int .u32 2)))⟩,
                                      ⟨none, some 56, .p (.bin .eql (.s 55) (.c (.int .u32 1)))⟩])] (.one .nil))
                                  (.cond (.s 56)
                                    (.ops [
                                        (none, [⟨none, some 57, .p (.mv (.s 9))⟩,
                                        ⟨none, some 58, .p (.mv (.s 10))⟩,
                                        ⟨none, some 59, .p (.bin .add (.c (.int .i64 49)) (.s 58))⟩,
                                        ⟨none, some 60, .r (.convI .u8 (.s 59))⟩,
                                        ⟨none, some 61, .a (.bsl 1 1 [.int .u8 0] [(0, .s 60)])⟩,
                                        ⟨none, some 62, .r (.str (.s 61))⟩,
                                        ⟨none, some 63, .p (.bin .add (.c (.string ⟨#[32]⟩)) (.s 62))⟩,
                                        ⟨none, some 64, .p (.bin .add (.s 57) (.s 63))⟩,
                                        ⟨none, some 9, .p (.mv (.s 64))⟩])] (.one .nil))
                                    .skip))))
                            (.ops [
                                (none, [⟨none, some 65, .p (.bin .add (.s 48) (.c (.int .i64 1)))⟩,
                                ⟨none, some 48, .p (.mv (.s 65))⟩])] (.one .nil))))))))
                (.seq
                  (.ops [
                      (none, [⟨none, some 66, .p (.mv (.s 9))⟩,
                      ⟨none, some 67, .p (.bin .add (.s 66) (.c (.string ⟨#[58, 32]⟩)))⟩,
                      ⟨none, some 68, .p (.mv (.s 7))⟩,
                      ⟨none, some 69, .p (.bin .add (.s 67) (.s 68))⟩,
                      ⟨none, some 4, .p (.mv (.s 69))⟩,
                      ⟨none, some 5, .p (.mv (.c (.int .i64 0)))⟩])] (.one .nil))
                  .ret))))))))
theorem cfn9 : cfn Tryz.prog 9 = some ⟨70, 7, d9.erase, [(.s 4, none), (.s 5, none)]⟩ := by kernel_rfl
theorem ok9 : d9.ok 70 7 = true := by kernel_rfl
noncomputable def F9 (a0 a1 : Value) (H : Heap) (nx : Nat) (k : EP) : Prop :=
  dBox a0 fun tc_1 => wNew (.cells tc_1 0) .ptr H nx fun t2_2 H1 nx1 =>
  dBox a1 fun tc_3 => wNew (.cells tc_3 0) .ptr H1 nx1 fun t3_4 H2 nx2 =>
  wLd t2_2 (some 5) H2 fun t11_5 =>
  wCall Tryz.prog 17 [t11_5] H2 nx2 fun t12_6 H3 nx3 =>
  wBin .neq t12_6 (.int .i64 0) fun t14_7 =>
  wIf t14_7 (
    forceV (.tuple ⟨[(.string ⟨#[]⟩), t12_6]⟩) fun tv_8 => k tv_8 H3 nx3) (
    wJoin (fun tj_9 =>
      wFld t3_4 0 fun t16_11 =>
      wLd t16_11 none H3 fun t17_12 =>
      wBin .eql t17_12 (.int .u32 0) fun t18_13 =>
      wGuard false t18_13 (
        wFld t3_4 0 fun t20_14 =>
        wLd t20_14 none H3 fun t21_15 =>
        wFld t2_2 3 fun t22_16 =>
        wLd t22_16 none H3 fun t23_17 =>
        wLen t23_17 0 H3 fun t24_18 =>
        wBin .shr t21_15 t24_18 fun t25_19 =>
        wBin .neq t25_19 (.int .u32 0) fun t26_20 =>
        tj_9 [t26_20] H3 nx3) (
        tj_9 [(.bool true)] H3 nx3)) (fun tL_10 H4 nx4 =>
      wIf (tL_10.getD 0 undef) (
        forceV (.tuple ⟨[(.string ⟨#[]⟩), (.int .i64 3)]⟩) fun tv_21 => k tv_21 H4 nx4) (
        forceN (nx4 + 16) fun nx5 =>
        wLd t2_2 (some 5) H4 fun t29_22 =>
        wFld t3_4 0 fun t30_23 =>
        wLd t30_23 none H4 fun t31_24 =>
        wCall Tryz.prog 22 [t29_22, t31_24] H4 nx5 fun t32_25 H6 nx6 =>
        wFld t3_4 1 fun t33_26 =>
        wFld t33_26 0 fun t34_27 =>
        wLd t34_27 none H6 fun t35_28 =>
        wFld t3_4 1 fun t36_29 =>
        wLd t36_29 (some 3) H6 fun t37_30 =>
        wCall Tryz.prog 23 [t37_30] H6 nx6 fun t38_31 H7 nx7 =>
        wCall Tryz.prog 21 [t32_25, t35_28, t38_31] H7 nx7 fun t39_32 H8 nx8 =>
        wExt t39_32 0 fun t40_33 =>
        wExt t39_32 1 fun t41_34 =>
        (((((True) ∧ ((True) ∧ ((wLd t36_29 (some 3) H6 fun tq_40 => tq_40 = t37_30) ∧ ((wLd t36_29 (some 3) H4 fun tq_41 => tq_41 = t37_30) ∧ True)))) ∧ (((True) ∧ ((wLd t34_27 none H7 fun tq_37 => tq_37 = t35_28) ∧ ((wLd t34_27 none H6 fun tq_38 => tq_38 = t35_28) ∧ ((wLd t34_27 none H4 fun tq_39 => tq_39 = t35_28) ∧ True)))) ∧ (((True) ∧ ((True) ∧ ((True) ∧ ((wLd t30_23 none H4 fun tq_36 => tq_36 = t31_24) ∧ True)))) ∧ (((True) ∧ ((True) ∧ ((True) ∧ ((wLd t2_2 (some 5) H4 fun tq_35 => tq_35 = t29_22) ∧ True)))) ∧ True))))) ∧ (
          wBin .neq t41_34 (.int .i64 0) fun t43_42 =>
          wIf t43_42 (
            forceV (.tuple ⟨[(.string ⟨#[]⟩), t41_34]⟩) fun tv_43 => k tv_43 H8 nx8) (
            wFld t2_2 3 fun t45_44 =>
            wLd t45_44 none H8 fun t46_45 =>
            wLen t46_45 0 H8 fun t47_46 =>
            wLoop (fun tih_47 tL_48 H9 nx9 =>
              wBin .lss (tL_48.getD 1 undef) t47_46 fun t49_49 =>
              wIf t49_49 (
                wJoin (fun tj_50 =>
                  wFld t3_4 0 fun t51_52 =>
                  wLd t51_52 none H9 fun t52_53 =>
                  wBin .shr t52_53 (tL_48.getD 1 undef) fun t54_54 =>
                  wBin .rem t54_54 (.int .u32 2) fun t55_55 =>
                  wBin .eql t55_55 (.int .u32 1) fun t56_56 =>
                  wIf t56_56 (
                    wBin .add (.int .i64 49) (tL_48.getD 1 undef) fun t59_57 =>
                    wConv .u8 t59_57 fun t60_58 =>
                    dBsl 1 1 [.int .u8 0] [(0, t60_58)] fun tc_59 => wNew (.cells tc_59 0) (.slice 1 1) H9 nx9 fun t61_60 H11 nx11 =>
                    wStr t61_60 H11 fun t62_61 =>
                    wBin .add (.string ⟨#[32]⟩) t62_61 fun t63_62 =>
                    wBin .add (tL_48.getD 0 undef) t63_62 fun t64_63 =>
                    tj_50 [t64_63] H11 nx11) (
                    tj_50 [(tL_48.getD 0 undef)] H9 nx9)) (fun tL_51 H10 nx10 =>
                  wBin .add (tL_48.getD 1 undef) (.int .i64 1) fun t65_64 =>
                  tih_47 [(tL_51.getD 0 undef), t65_64] H10 nx10)) (
                wBin .add (tL_48.getD 0 undef) (.string ⟨#[58, 32]⟩) fun t67_65 =>
                wBin .add t67_65 t40_33 fun t69_66 =>
                forceV (.tuple ⟨[t69_66, (.int .i64 0)]⟩) fun tv_67 => k tv_67 H9 nx9)) [(.string ⟨#[114, 101, 102, 117, 115, 101, 100]⟩), (.int .i64 0)] H8 nx8))) ∨ False)))
theorem eq9 (a0 a1 : Value) (H : Heap) (nx : Nat) (k : EP) : wBody Tryz.prog 70 7 d9 [(.s 4, none), (.s 5, none)] [a0, a1] H nx k = F9 a0 a1 H nx k := by kernel_rfl
theorem spec9 {a0 a1 : Value} {H : Heap} {nx : Nat} {k : EP} (h : F9 a0 a1 H nx k) : Ans Tryz.prog 9 [a0, a1] H nx k :=
  spec_of_body mixed namesOK cfn9 ok9 (by simp) ((eq9 a0 a1 H nx k).symm ▸ h)

/-! 19: ordinal/explain.names -/
def d19 : D :=
  (.seq
    (.ops [
        (none, [⟨none, some 2, .a (.box (.s 0))⟩,
        ⟨none, some 4, .p (.mv (.c (.slice none 0 0)))⟩])] (.one .nil))
    (.seq
      (.ops [
          (none, [⟨none, some 12, .a (.bsl 0 1 [.string ⟨#[]⟩] [])⟩,
          ⟨none, some 5, .p (.mv (.s 12))⟩])] (.one .nil))
      (.seq
        (.seq
          (.ops [
              (none, [⟨none, some 13, .r (.ld (.s 2) (some 5))⟩,
              ⟨none, some 14, .e (.call (.c (.func (.func 46) ⟨[]⟩ ⟨[]⟩)) [.s 13])⟩,
              ⟨none, some 15, .r (.len (.s 14) 0)⟩,
              ⟨none, some 16, .p (.mv (.c (.int .i64 0)))⟩])] (.one .nil))
          (.block 0
            (.loop [5, 16] [7, 17, 18, 19, 20, 21, 22, 23, 24, 25]
              (.seq
                (.ops [
                    (none, [⟨none, some 17, .p (.bin .lss (.s 16) (.s 15))⟩])] (.one .nil))
                (.seq
                  (.cond (.s 17)
                    .skip
                    (.exit 0))
                  (.seq
                    (.block 1
                      (.seq
                        (.ops [
                            (none, [⟨none, some 18, .p (.idx (.s 14) (.s 16) none 2)⟩,
                            ⟨none, some 19, .r (.ld (.s 18) (some 2))⟩,
                            ⟨none, some 7, .a (.alloc [.string ⟨#[]⟩, .bool false])⟩,
                            ⟨none, none, .e (.st (.s 7) (.s 19) 2)⟩])] (.one .nil))
                        (.ops [
                            (none, [⟨none, some 20, .p (.mv (.s 5))⟩,
                            ⟨none, some 21, .p (.fld (.s 7) 0)⟩,
                            ⟨none, some 22, .r (.ld (.s 21) none)⟩,
                            ⟨none, some 23, .a (.bsl 1 1 [.string ⟨#[]⟩] [(0, .s 22)])⟩,
                            ⟨none, some 24, .e (.app (.s 20) (.s 23) 1 16)⟩,
                            ⟨none, some 5, .p (.mv (.s 24))⟩])] (.one .nil))))
                    (.ops [
                        (none, [⟨none, some 25, .p (.bin .add (.s 16) (.c (.int .i64 1)))⟩,
                        ⟨none, some 16, .p (.mv (.s 25))⟩])] (.one .nil))))))))
        (.seq
          (.seq
            (.ops [
                (none, [⟨none, some 26, .p (.fld (.s 2) 3)⟩,
                ⟨none, some 27, .r (.ld (.s 26) none)⟩,
                ⟨none, some 28, .r (.len (.s 27) 0)⟩,
                ⟨none, some 29, .p (.mv (.c (.int .i64 0)))⟩])] (.one .nil))
            (.block 2
              (.loop [5, 29] [8, 9, 11, 30, 31, 32, 33, 34, 35, 36, 37, 38, 39, 40, 41, 42, 43, 44, 45, 46, 47, 48, 49, 50, 51, 52, 53, 54, 55, 56, 57, 58, 59, 60, 61, 62, 63, 64, 65, 66]
                (.seq
                  (.ops [
                      (none, [⟨none, some 30, .p (.bin .lss (.s 29) (.s 28))⟩])] (.one .nil))
                  (.seq
                    (.cond (.s 30)
                      .skip
                      (.exit 2))
                    (.join [5] [8, 9, 11, 31, 32, 33, 34, 35, 36, 37, 38, 39, 40, 41, 42, 43, 44, 45, 46, 47, 48, 49, 50, 51, 52, 53, 54, 55, 56, 57, 58, 59, 60, 61, 62, 63, 64, 65]
                      (.block 3
                        (.seq
                          (.ops [
                              (none, [⟨none, some 31, .p (.mv (.s 29))⟩,
                              ⟨none, some 32, .p (.idx (.s 27) (.s 29) none 2)⟩,
                              ⟨none, some 33, .r (.ld (.s 32) (some 2))⟩,
                              ⟨none, some 9, .a (.alloc [.slice none 0 0, .slice none 0 0])⟩,
                              ⟨none, some 8, .p (.mv (.s 31))⟩,
                              ⟨none, none, .e (.st (.s 9) (.s 33) 2)⟩])] (.one .nil))
                          (.seq
                            (.seq
                              (.ops [
                                  (none, [⟨none, some 34, .p (.mv (.s 1))⟩,
                                  ⟨none, some 35, .p (.mv (.s 8))⟩,
                                  ⟨none, some 36, .p (.bin .shr (.s 34) (.s 35))⟩,
                                  ⟨none, some 37, .p (.bin .and (.s 36) (.c (.int .u32 1)))⟩,
                                  ⟨none, some 38, .p (.bin .eql (.s 37) (.c (.int .u32 0)))⟩])] (.one .nil))
                              (.cond (.s 38)
                                (.exit 3)
                                .skip))
                            (.seq
                              (.ops [
                                  (none, [⟨none, some 39, .r (.ld (.s 9) (some 2))⟩,
                                  ⟨none, some 40, .e (.call (.c (.func (.func 47) ⟨[]⟩ ⟨[]⟩)) [.s 39])⟩,
                                  ⟨none, some 41, .r (.len (.s 40) 0)⟩,
                                  ⟨none, some 42, .p (.mv (.c (.int .i64 0)))⟩])] (.one .nil))
                              (.block 4
                                (.loop [5, 42] [11, 43, 44, 45, 46, 47, 48, 49, 50, 51, 52, 53, 54, 55, 56, 57, 58, 59, 60, 61, 62, 63, 64, 65]
                                  (.seq
                                    (.ops [
                                        (none, [⟨none, some 43, .p (.bin .lss (.s 42) (.s 41))⟩])] (.one .nil))
                                    (.seq
                                      (.cond (.s 43)
                                        .skip
                                        (.exit 4))
                                      (.join [5] [11, 44, 45, 46, 47, 48, 49, 50, 51, 52, 53, 54, 55, 56, 57, 58, 59, 60, 61, 62, 63, 64]
                                        (.block 5
                                          (.seq
                                            (.ops [
                                                (none, [⟨none, some 44, .p (.idx (.s 40) (.s 42) none 1)⟩,
                                                ⟨none, some 45, .r (.ld (.s 44) none)⟩,
                                                ⟨none, some 11, .p (.mv (.s 45))⟩])] (.one .nil))
                                            (.seq
                                              (.seq
                                                (.ops [
                                                    (none, [⟨none, some 46, .p (.fld (.s 2) 0)⟩,
                                                    ⟨none, some 47, .r (.ld (.s 46) none)⟩,
                                                    ⟨none, some 48, .p (.mv (.s 11))⟩,
                                                    ⟨none, some 49, .e (.call (.c (.func (.func 39) ⟨[]⟩ ⟨[]⟩)) [.s 47, .s 48])⟩])] (.one .nil))
                                                (.cond (.s 49)
                                                  (.exit 5)
                                                  .skip))
                                              (.join [11] [50, 51, 52, 53, 54, 55, 56, 57, 58, 59, 60]
                                                (.seq
                                                  (.ops [
                                                      (none, [⟨none, some 50, .p (.mv (.s 1))⟩,
                                                      ⟨none, some 51, .p (.mv (.s 1))⟩,
                                                      ⟨none, some 52, .p (.bin .sub (.s 51) (.c (.int .u32 1)))⟩,
                                                      ⟨none, some 53, .p (.bin .and (.s 50) (.s 52))⟩,
                                                      ⟨none, some 54, .p (.bin .neq (.s 53) (.c (.int .u32 0)))⟩])] (.one .nil))
                                                  (.cond (.s 54)
                                                    (.ops [
                                                        (none, [⟨none, some 55, .p (.mv (.s 11))⟩,
                                                        ⟨none, some 56, .p (.mv (.s 8))⟩,
                                                        ⟨none, some 57, .p (.bin .add (.s 56) (.c (.int .i64 1)))⟩,
                                                        ⟨none, some 58, .e (.call (.c (.func (.func 18) ⟨[]⟩ ⟨[]⟩)) [.s 57])⟩,
                                                        ⟨none, some 59, .p (.bin .add (.c (.string ⟨#[46]⟩)) (.s 58))⟩,
                                                        ⟨none, some 60, .p (.bin .add (.s 55) (.s 59))⟩,
                                                        ⟨none, some 11, .p (.mv (.s 60))⟩])] (.one .nil))
                                                    .skip))
                                                (.ops [
                                                    (none, [⟨none, some 61, .p (.mv (.s 5))⟩,
                                                    ⟨none, some 62, .p (.mv (.s 11))⟩,
                                                    ⟨none, some 63, .a (.bsl 1 1 [.string ⟨#[]⟩] [(0, .s 62)])⟩,
                                                    ⟨none, some 64, .e (.app (.s 61) (.s 63) 1 16)⟩,
                                                    ⟨none, some 5, .p (.mv (.s 64))⟩])] (.one .nil))))))
                                        (.ops [
                                            (none, [⟨none, some 65, .p (.bin .add (.s 42) (.c (.int .i64 1)))⟩,
                                            ⟨none, some 42, .p (.mv (.s 65))⟩])] (.one .nil)))))))))))
                      (.ops [
                          (none, [⟨none, some 66, .p (.bin .add (.s 29) (.c (.int .i64 1)))⟩,
                          ⟨none, some 29, .p (.mv (.s 66))⟩])] (.one .nil))))))))
          (.seq
            (.ops [
                (none, [⟨none, some 67, .p (.mv (.s 5))⟩,
                ⟨none, some 4, .p (.mv (.s 67))⟩])] (.one .nil))
            .ret)))))
theorem cfn19 : cfn Tryz.prog 19 = some ⟨68, 7, d19.erase, [(.s 4, none)]⟩ := by kernel_rfl
theorem ok19 : d19.ok 68 7 = true := by kernel_rfl
noncomputable def F19 (a0 a1 : Value) (H : Heap) (nx : Nat) (k : EP) : Prop :=
  dBox a0 fun tc_1 => wNew (.cells tc_1 0) .ptr H nx fun t2_2 H1 nx1 =>
  dBsl 0 1 [.string ⟨#[]⟩] [] fun tc_3 => wNew (.cells tc_3 0) (.slice 0 0) H1 nx1 fun t12_4 H2 nx2 =>
  wLd t2_2 (some 5) H2 fun t13_5 =>
  wCall Tryz.prog 46 [t13_5] H2 nx2 fun t14_6 H3 nx3 =>
  wLen t14_6 0 H3 fun t15_7 =>
  wLoop (fun tih_8 tL_9 H4 nx4 =>
    wBin .lss (tL_9.getD 1 undef) t15_7 fun t17_10 =>
    wIf t17_10 (
      wIdx t14_6 (tL_9.getD 1 undef) none 2 fun t18_11 =>
      wLd t18_11 (some 2) H4 fun t19_12 =>
      wNew (.cells [.string ⟨#[]⟩, .bool false] 0) .ptr H4 nx4 fun t7_13 H5 nx5 =>
      wSt t7_13 t19_12 2 H5 fun H6 =>
      wFld t7_13 0 fun t21_14 =>
      wLd t21_14 none H6 fun t22_15 =>
      dBsl 1 1 [.string ⟨#[]⟩] [(0, t22_15)] fun tc_16 => wNew (.cells tc_16 0) (.slice 1 1) H6 nx5 fun t23_17 H7 nx7 =>
      wApp (tL_9.getD 0 undef) t23_17 1 16 H7 nx7 fun t24_18 H8 nx8 =>
      wBin .add (tL_9.getD 1 undef) (.int .i64 1) fun t25_19 =>
      tih_8 [t24_18, t25_19] H8 nx8) (
      wFld t2_2 3 fun t26_20 =>
      wLd t26_20 none H4 fun t27_21 =>
      wLen t27_21 0 H4 fun t28_22 =>
      wLoop (fun tih_23 tL_24 H9 nx9 =>
        wBin .lss (tL_24.getD 1 undef) t28_22 fun t30_25 =>
        wIf t30_25 (
          wJoin (fun tj_26 =>
            wIdx t27_21 (tL_24.getD 1 undef) none 2 fun t32_28 =>
            wLd t32_28 (some 2) H9 fun t33_29 =>
            wNew (.cells [.slice none 0 0, .slice none 0 0] 0) .ptr H9 nx9 fun t9_30 H11 nx11 =>
            wSt t9_30 t33_29 2 H11 fun H12 =>
            wBin .shr a1 (tL_24.getD 1 undef) fun t36_31 =>
            wBin .and t36_31 (.int .u32 1) fun t37_32 =>
            wBin .eql t37_32 (.int .u32 0) fun t38_33 =>
            wIf t38_33 (
              tj_26 [(tL_24.getD 0 undef)] H12 nx11) (
              wLd t9_30 (some 2) H12 fun t39_34 =>
              wCall Tryz.prog 47 [t39_34] H12 nx11 fun t40_35 H13 nx13 =>
              wLen t40_35 0 H13 fun t41_36 =>
              wLoop (fun tih_37 tL_38 H14 nx14 =>
                wBin .lss (tL_38.getD 1 undef) t41_36 fun t43_39 =>
                wIf t43_39 (
                  wJoin (fun tj_40 =>
                    wIdx t40_35 (tL_38.getD 1 undef) none 1 fun t44_42 =>
                    wLd t44_42 none H14 fun t45_43 =>
                    wFld t2_2 0 fun t46_44 =>
                    wLd t46_44 none H14 fun t47_45 =>
                    wCall Tryz.prog 39 [t47_45, t45_43] H14 nx14 fun t49_46 H16 nx16 =>
                    wIf t49_46 (
                      tj_40 [(tL_38.getD 0 undef)] H16 nx16) (
                      wJoin (fun tj_47 =>
                        wBin .sub a1 (.int .u32 1) fun t52_49 =>
                        wBin .and a1 t52_49 fun t53_50 =>
                        wBin .neq t53_50 (.int .u32 0) fun t54_51 =>
                        wIf t54_51 (
                          wBin .add (tL_24.getD 1 undef) (.int .i64 1) fun t57_52 =>
                          wCall Tryz.prog 18 [t57_52] H16 nx16 fun t58_53 H18 nx18 =>
                          wBin .add (.string ⟨#[46]⟩) t58_53 fun t59_54 =>
                          wBin .add t45_43 t59_54 fun t60_55 =>
                          tj_47 [t60_55] H18 nx18) (
                          tj_47 [t45_43] H16 nx16)) (fun tL_48 H17 nx17 =>
                        dBsl 1 1 [.string ⟨#[]⟩] [(0, (tL_48.getD 0 undef))] fun tc_56 => wNew (.cells tc_56 0) (.slice 1 1) H17 nx17 fun t63_57 H19 nx19 =>
                        wApp (tL_38.getD 0 undef) t63_57 1 16 H19 nx19 fun t64_58 H20 nx20 =>
                        tj_40 [t64_58] H20 nx20))) (fun tL_41 H15 nx15 =>
                    wBin .add (tL_38.getD 1 undef) (.int .i64 1) fun t65_59 =>
                    tih_37 [(tL_41.getD 0 undef), t65_59] H15 nx15)) (
                  tj_26 [(tL_38.getD 0 undef)] H14 nx14)) [(tL_24.getD 0 undef), (.int .i64 0)] H13 nx13)) (fun tL_27 H10 nx10 =>
            wBin .add (tL_24.getD 1 undef) (.int .i64 1) fun t66_60 =>
            tih_23 [(tL_27.getD 0 undef), t66_60] H10 nx10)) (
          forceV (tL_24.getD 0 undef) fun tv_61 => k tv_61 H9 nx9)) [(tL_9.getD 0 undef), (.int .i64 0)] H4 nx4)) [t12_4, (.int .i64 0)] H3 nx3
theorem eq19 (a0 a1 : Value) (H : Heap) (nx : Nat) (k : EP) : wBody Tryz.prog 68 7 d19 [(.s 4, none)] [a0, a1] H nx k = F19 a0 a1 H nx k := by kernel_rfl
theorem spec19 {a0 a1 : Value} {H : Heap} {nx : Nat} {k : EP} (h : F19 a0 a1 H nx k) : Ans Tryz.prog 19 [a0, a1] H nx k :=
  spec_of_body mixed namesOK cfn19 ok19 (by simp) ((eq19 a0 a1 H nx k).symm ▸ h)

/-! 22: ordinal/ordinallaw56.names -/
def d22 : D :=
  (.seq
    (.ops [
        (none, [⟨none, some 2, .a (.box (.s 0))⟩,
        ⟨none, some 4, .p (.mv (.c (.slice none 0 0)))⟩])] (.one .nil))
    (.seq
      (.ops [
          (none, [⟨none, some 5, .p (.mv (.c (.slice none 0 0)))⟩])] (.one .nil))
      (.seq
        (.ops [
            (none, [⟨none, some 13, .a (.mmap none)⟩,
            ⟨none, some 6, .p (.mv (.s 13))⟩])] (.one .nil))
        (.seq
          (.seq
            (.ops [
                (none, [⟨none, some 14, .r (.ld (.s 2) (some 5))⟩,
                ⟨none, some 15, .e (.call (.c (.func (.func 46) ⟨[]⟩ ⟨[]⟩)) [.s 14])⟩,
                ⟨none, some 16, .r (.len (.s 15) 0)⟩,
                ⟨none, some 17, .p (.mv (.c (.int .i64 0)))⟩])] (.one .nil))
            (.block 0
              (.loop [5, 17] [8, 18, 19, 20, 21, 22, 23, 24, 25, 26, 27, 28, 29]
                (.seq
                  (.ops [
                      (none, [⟨none, some 18, .p (.bin .lss (.s 17) (.s 16))⟩])] (.one .nil))
                  (.seq
                    (.cond (.s 18)
                      .skip
                      (.exit 0))
                    (.seq
                      (.block 1
                        (.seq
                          (.ops [
                              (none, [⟨none, some 19, .p (.idx (.s 15) (.s 17) none 2)⟩,
                              ⟨none, some 20, .r (.ld (.s 19) (some 2))⟩,
                              ⟨none, some 8, .a (.alloc [.string ⟨#[]⟩, .bool false])⟩,
                              ⟨none, none, .e (.st (.s 8) (.s 20) 2)⟩])] (.one .nil))
                          (.seq
                            (.ops [
                                (none, [⟨none, some 21, .p (.mv (.s 5))⟩,
                                ⟨none, some 22, .p (.fld (.s 8) 0)⟩,
                                ⟨none, some 23, .r (.ld (.s 22) none)⟩,
                                ⟨none, some 24, .a (.bsl 1 1 [.string ⟨#[]⟩] [(0, .s 23)])⟩,
                                ⟨none, some 25, .e (.app (.s 21) (.s 24) 1 16)⟩,
                                ⟨none, some 5, .p (.mv (.s 25))⟩])] (.one .nil))
                            (.ops [
                                (none, [⟨none, some 26, .p (.mv (.s 6))⟩,
                                ⟨none, some 27, .p (.fld (.s 8) 0)⟩,
                                ⟨none, some 28, .r (.ld (.s 27) none)⟩,
                                ⟨none, none, .e (.upd .string (.s 26) (.s 28) (.c (.bool true)))⟩])] (.one .nil)))))
                      (.ops [
                          (none, [⟨none, some 29, .p (.bin .add (.s 17) (.c (.int .i64 1)))⟩,
                          ⟨none, some 17, .p (.mv (.s 29))⟩])] (.one .nil))))))))
          (.seq
            (.seq
              (.ops [
                  (none, [⟨none, some 30, .p (.fld (.s 2) 3)⟩,
                  ⟨none, some 31, .r (.ld (.s 30) none)⟩,
                  ⟨none, some 32, .r (.len (.s 31) 0)⟩,
                  ⟨none, some 33, .p (.mv (.c (.int .i64 0)))⟩])] (.one .nil))
              (.block 2
                (.loop [5, 33] [9, 10, 12, 34, 35, 36, 37, 38, 39, 40, 41, 42, 43, 44, 45, 46, 47, 48, 49, 50, 51, 52, 53, 54, 55, 56, 57, 58, 59, 60, 61, 62, 63, 64, 65, 66, 67, 68, 69, 70, 71]
                  (.seq
                    (.ops [
                        (none, [⟨none, some 34, .p (.bin .lss (.s 33) (.s 32))⟩])] (.one .nil))
                    (.seq
                      (.cond (.s 34)
                        .skip
                        (.exit 2))
                      (.join [5] [9, 10, 12, 35, 36, 37, 38, 39, 40, 41, 42, 43, 44, 45, 46, 47, 48, 49, 50, 51, 52, 53, 54, 55, 56, 57, 58, 59, 60, 61, 62, 63, 64, 65, 66, 67, 68, 69, 70]
                        (.block 3
                          (.seq
                            (.ops [
                                (none, [⟨none, some 35, .p (.mv (.s 33))⟩,
                                ⟨none, some 36, .p (.idx (.s 31) (.s 33) none 2)⟩,
                                ⟨none, some 37, .r (.ld (.s 36) (some 2))⟩,
                                ⟨none, some 10, .a (.alloc [.slice none 0 0, .slice none 0 0])⟩,
                                ⟨none, some 9, .p (.mv (.s 35))⟩,
                                ⟨none, none, .e (.st (.s 10) (.s 37) 2)⟩])] (.one .nil))
                            (.seq
                              (.seq
                                (.ops [
                                    (none, [⟨none, some 38, .p (.mv (.s 1))⟩,
                                    ⟨none, some 39, .p (.mv (.s 9))⟩,
                                    ⟨none, some 40, .p (.bin .shr (.s 38) (.s 39))⟩,
                                    ⟨none, some 41, .p (.bin .rem (.s 40) (.c (.int .u32 2)))⟩,
                                    ⟨none, some 42, .p (.bin .eql (.s 41) (.c (.int .u32 0)))⟩])] (.one .nil))
                                (.cond (.s 42)
                                  (.exit 3)
                                  .skip))
                              (.seq
                                (.ops [
                                    (none, [⟨none, some 43, .r (.ld (.s 10) (some 2))⟩,
                                    ⟨none, some 44, .e (.call (.c (.func (.func 47) ⟨[]⟩ ⟨[]⟩)) [.s 43])⟩,
                                    ⟨none, some 45, .r (.len (.s 44) 0)⟩,
                                    ⟨none, some 46, .p (.mv (.c (.int .i64 0)))⟩])] (.one .nil))
                                (.block 4
                                  (.loop [5, 46] [12, 47, 48, 49, 50, 51, 52, 53, 54, 55, 56, 57, 58, 59, 60, 61, 62, 63, 64, 65, 66, 67, 68, 69, 70]
                                    (.seq
                                      (.ops [
                                          (none, [⟨none, some 47, .p (.bin .lss (.s 46) (.s 45))⟩])] (.one .nil))
                                      (.seq
                                        (.cond (.s 47)
                                          .skip
                                          (.exit 4))
                                        (.join [5] [12, 48, 49, 50, 51, 52, 53, 54, 55, 56, 57, 58, 59, 60, 61, 62, 63, 64, 65, 66, 67, 68, 69]
                                          (.block 5
                                            (.seq
                                              (.ops [
                                                  (none, [⟨none, some 48, .p (.idx (.s 44) (.s 46) none 1)⟩,
                                                  ⟨none, some 49, .r (.ld (.s 48) none)⟩,
                                                  ⟨none, some 12, .p (.mv (.s 49))⟩])] (.one .nil))
                                              (.seq
                                                (.seq
                                                  (.ops [
                                                      (none, [⟨none, some 50, .p (.mv (.s 6))⟩,
                                                      ⟨none, some 51, .p (.mv (.s 12))⟩,
                                                      ⟨none, some 52, .r (.lk .string (.bool false) (.s 50) (.s 51) false)⟩])] (.one .nil))
                                                  (.cond (.s 52)
                                                    (.exit 5)
                                                    .skip))
                                                (.join [12] [53, 54, 55, 56, 57, 58, 59, 60, 61, 62, 63, 64, 65]
                                                  (.seq
                                                    (.ops [
                                                        (none, [⟨none, some 53, .p (.mv (.s 1))⟩,
                                                        ⟨none, some 54, .p (.mv (.s 1))⟩,
                                                        ⟨none, some 55, .p (.bin .sub (.s 54) (.c (.int .u32 1)))⟩,
                                                        ⟨none, some 56, .p (.bin .and (.s 53) (.s 55))⟩,
                                                        ⟨none, some 57, .p (.bin .neq (.s 56) (.c (.int .u32 0)))⟩])] (.one .nil))
                                                    (.cond (.s 57)
                                                      (.ops [
                                                          (none, [⟨none, some 58, .p (.mv (.s 12))⟩,
                                                          ⟨none, some 59, .p (.mv (.s 9))⟩,
                                                          ⟨none, some 60, .p (.bin .add (.c (.int .i64 49)) (.s 59))⟩,
                                                          ⟨none, some 61, .r (.convI .u8 (.s 60))⟩,
                                                          ⟨none, some 62, .a (.bsl 1 1 [.int .u8 0] [(0, .s 61)])⟩,
                                                          ⟨none, some 63, .r (.str (.s 62))⟩,
                                                          ⟨none, some 64, .p (.bin .add (.c (.string ⟨#[46]⟩)) (.s 63))⟩,
                                                          ⟨none, some 65, .p (.bin .add (.s 58) (.s 64))⟩,
                                                          ⟨none, some 12, .p (.mv (.s 65))⟩])] (.one .nil))
                                                      .skip))
                                                  (.ops [
                                                      (none, [⟨none, some 66, .p (.mv (.s 5))⟩,
                                                      ⟨none, some 67, .p (.mv (.s 12))⟩,
                                                      ⟨none, some 68, .a (.bsl 1 1 [.string ⟨#[]⟩] [(0, .s 67)])⟩,
                                                      ⟨none, some 69, .e (.app (.s 66) (.s 68) 1 16)⟩,
                                                      ⟨none, some 5, .p (.mv (.s 69))⟩])] (.one .nil))))))
                                          (.ops [
                                              (none, [⟨none, some 70, .p (.bin .add (.s 46) (.c (.int .i64 1)))⟩,
                                              ⟨none, some 46, .p (.mv (.s 70))⟩])] (.one .nil)))))))))))
                        (.ops [
                            (none, [⟨none, some 71, .p (.bin .add (.s 33) (.c (.int .i64 1)))⟩,
                            ⟨none, some 33, .p (.mv (.s 71))⟩])] (.one .nil))))))))
            (.seq
              (.ops [
                  (none, [⟨none, some 72, .p (.mv (.s 5))⟩,
                  ⟨none, some 4, .p (.mv (.s 72))⟩])] (.one .nil))
              .ret))))))
theorem cfn22 : cfn Tryz.prog 22 = some ⟨73, 7, d22.erase, [(.s 4, none)]⟩ := by kernel_rfl
theorem ok22 : d22.ok 73 7 = true := by kernel_rfl
noncomputable def F22 (a0 a1 : Value) (H : Heap) (nx : Nat) (k : EP) : Prop :=
  dBox a0 fun tc_1 => wNew (.cells tc_1 0) .ptr H nx fun t2_2 H1 nx1 =>
  dMmap none <| wNew (.map [] 0) .map H1 nx1 fun t13_3 H2 nx2 =>
  wLd t2_2 (some 5) H2 fun t14_4 =>
  wCall Tryz.prog 46 [t14_4] H2 nx2 fun t15_5 H3 nx3 =>
  wLen t15_5 0 H3 fun t16_6 =>
  wLoop (fun tih_7 tL_8 H4 nx4 =>
    wBin .lss (tL_8.getD 1 undef) t16_6 fun t18_9 =>
    wIf t18_9 (
      wIdx t15_5 (tL_8.getD 1 undef) none 2 fun t19_10 =>
      wLd t19_10 (some 2) H4 fun t20_11 =>
      wNew (.cells [.string ⟨#[]⟩, .bool false] 0) .ptr H4 nx4 fun t8_12 H5 nx5 =>
      wSt t8_12 t20_11 2 H5 fun H6 =>
      wFld t8_12 0 fun t22_13 =>
      wLd t22_13 none H6 fun t23_14 =>
      dBsl 1 1 [.string ⟨#[]⟩] [(0, t23_14)] fun tc_15 => wNew (.cells tc_15 0) (.slice 1 1) H6 nx5 fun t24_16 H7 nx7 =>
      wApp (tL_8.getD 0 undef) t24_16 1 16 H7 nx7 fun t25_17 H8 nx8 =>
      wFld t8_12 0 fun t27_18 =>
      wLd t27_18 none H8 fun t28_19 =>
      wUpd .string t13_3 t28_19 (.bool true) H8 nx8 fun u_20 H9 nx9 =>
      wBin .add (tL_8.getD 1 undef) (.int .i64 1) fun t29_21 =>
      tih_7 [t25_17, t29_21] H9 nx9) (
      wFld t2_2 3 fun t30_22 =>
      wLd t30_22 none H4 fun t31_23 =>
      wLen t31_23 0 H4 fun t32_24 =>
      wLoop (fun tih_25 tL_26 H10 nx10 =>
        wBin .lss (tL_26.getD 1 undef) t32_24 fun t34_27 =>
        wIf t34_27 (
          wJoin (fun tj_28 =>
            wIdx t31_23 (tL_26.getD 1 undef) none 2 fun t36_30 =>
            wLd t36_30 (some 2) H10 fun t37_31 =>
            wNew (.cells [.slice none 0 0, .slice none 0 0] 0) .ptr H10 nx10 fun t10_32 H12 nx12 =>
            wSt t10_32 t37_31 2 H12 fun H13 =>
            wBin .shr a1 (tL_26.getD 1 undef) fun t40_33 =>
            wBin .rem t40_33 (.int .u32 2) fun t41_34 =>
            wBin .eql t41_34 (.int .u32 0) fun t42_35 =>
            wIf t42_35 (
              tj_28 [(tL_26.getD 0 undef)] H13 nx12) (
              wLd t10_32 (some 2) H13 fun t43_36 =>
              wCall Tryz.prog 47 [t43_36] H13 nx12 fun t44_37 H14 nx14 =>
              wLen t44_37 0 H14 fun t45_38 =>
              wLoop (fun tih_39 tL_40 H15 nx15 =>
                wBin .lss (tL_40.getD 1 undef) t45_38 fun t47_41 =>
                wIf t47_41 (
                  wJoin (fun tj_42 =>
                    wIdx t44_37 (tL_40.getD 1 undef) none 1 fun t48_44 =>
                    wLd t48_44 none H15 fun t49_45 =>
                    wLk .string (.bool false) t13_3 t49_45 false H15 fun t52_46 =>
                    wIf t52_46 (
                      tj_42 [(tL_40.getD 0 undef)] H15 nx15) (
                      wJoin (fun tj_47 =>
                        wBin .sub a1 (.int .u32 1) fun t55_49 =>
                        wBin .and a1 t55_49 fun t56_50 =>
                        wBin .neq t56_50 (.int .u32 0) fun t57_51 =>
                        wIf t57_51 (
                          wBin .add (.int .i64 49) (tL_26.getD 1 undef) fun t60_52 =>
                          wConv .u8 t60_52 fun t61_53 =>
                          dBsl 1 1 [.int .u8 0] [(0, t61_53)] fun tc_54 => wNew (.cells tc_54 0) (.slice 1 1) H15 nx15 fun t62_55 H18 nx18 =>
                          wStr t62_55 H18 fun t63_56 =>
                          wBin .add (.string ⟨#[46]⟩) t63_56 fun t64_57 =>
                          wBin .add t49_45 t64_57 fun t65_58 =>
                          tj_47 [t65_58] H18 nx18) (
                          tj_47 [t49_45] H15 nx15)) (fun tL_48 H17 nx17 =>
                        dBsl 1 1 [.string ⟨#[]⟩] [(0, (tL_48.getD 0 undef))] fun tc_59 => wNew (.cells tc_59 0) (.slice 1 1) H17 nx17 fun t68_60 H19 nx19 =>
                        wApp (tL_40.getD 0 undef) t68_60 1 16 H19 nx19 fun t69_61 H20 nx20 =>
                        tj_42 [t69_61] H20 nx20))) (fun tL_43 H16 nx16 =>
                    wBin .add (tL_40.getD 1 undef) (.int .i64 1) fun t70_62 =>
                    tih_39 [(tL_43.getD 0 undef), t70_62] H16 nx16)) (
                  tj_28 [(tL_40.getD 0 undef)] H15 nx15)) [(tL_26.getD 0 undef), (.int .i64 0)] H14 nx14)) (fun tL_29 H11 nx11 =>
            wBin .add (tL_26.getD 1 undef) (.int .i64 1) fun t71_63 =>
            tih_25 [(tL_29.getD 0 undef), t71_63] H11 nx11)) (
          forceV (tL_26.getD 0 undef) fun tv_64 => k tv_64 H10 nx10)) [(tL_8.getD 0 undef), (.int .i64 0)] H4 nx4)) [(.slice none 0 0), (.int .i64 0)] H3 nx3
theorem eq22 (a0 a1 : Value) (H : Heap) (nx : Nat) (k : EP) : wBody Tryz.prog 73 7 d22 [(.s 4, none)] [a0, a1] H nx k = F22 a0 a1 H nx k := by kernel_rfl
theorem spec22 {a0 a1 : Value} {H : Heap} {nx : Nat} {k : EP} (h : F22 a0 a1 H nx k) : Ans Tryz.prog 22 [a0, a1] H nx k :=
  spec_of_body mixed namesOK cfn22 ok22 (by simp) ((eq22 a0 a1 H nx k).symm ▸ h)

/-! 3: ordinal/ordinallaw56.ExplainRefusals -/
def d3 : D :=
  (.seq
    (.ops [
        (none, [⟨none, some 2, .a (.box (.s 0))⟩,
        ⟨none, some 3, .a (.box (.s 1))⟩,
        ⟨none, some 4, .p (.mv (.c (.bool false)))⟩])] (.one .nil))
    (.seq
      (.join [15] [9, 10, 11, 12, 13, 14]
        (.ops [
            (none, [⟨none, some 9, .r (.ld (.s 2) (some 5))⟩,
            ⟨none, some 10, .e (.call (.c (.func (.func 5) ⟨[]⟩ ⟨[]⟩)) [.s 9])⟩,
            ⟨none, some 11, .p (.mv (.s 10))⟩]),
            (some (11, false), [⟨none, some 12, .p (.fld (.s 3) 1)⟩,
            ⟨none, some 13, .r (.ld (.s 12) (some 3))⟩,
            ⟨none, some 14, .e (.call (.c (.func (.func 6) ⟨[]⟩ ⟨[]⟩)) [.c (.slice none 0 0), .s 13])⟩]),
            (none, [⟨none, some 15, .p (.pick (.s 11) (.c (.bool true)) (.s 14))⟩])] (.one (.tst (.one .nil) (.one .nil))))
        (.cond (.s 15)
          (.seq
            (.ops [
                (none, [⟨none, some 16, .e (.call (.c (.func (.func 7) ⟨[]⟩ ⟨[]⟩)) [])⟩,
                ⟨none, some 4, .p (.mv (.s 16))⟩])] (.one .nil))
            .ret)
          .skip))
      (.seq
        (.ops [
            (none, [⟨none, some 18, .r (.ld (.s 2) (some 5))⟩,
            ⟨none, some 19, .r (.ld (.s 3) (some 4))⟩,
            ⟨none, some 20, .e (.call (.c (.func (.func 8) ⟨[]⟩ ⟨[]⟩)) [.s 18, .s 19])⟩,
            ⟨none, some 17, .p (.mv (.s 20))⟩,
            ⟨none, some 21, .p (.ext (.s 17) 0)⟩,
            ⟨none, some 22, .p (.ext (.s 17) 1)⟩,
            ⟨none, some 5, .p (.mv (.s 21))⟩,
            ⟨none, some 6, .p (.mv (.s 22))⟩])] (.one .nil))
        (.seq
          (.ops [
              (none, [⟨none, some 24, .r (.ld (.s 2) (some 5))⟩,
              ⟨none, some 25, .r (.ld (.s 3) (some 4))⟩,
              ⟨none, some 26, .e (.call (.c (.func (.func 9) ⟨[]⟩ ⟨[]⟩)) [.s 24, .s 25])⟩,
              ⟨none, some 23, .p (.mv (.s 26))⟩,
              ⟨none, some 27, .p (.ext (.s 23) 0)⟩,
              ⟨none, some 28, .p (.ext (.s 23) 1)⟩,
              ⟨none, some 7, .p (.mv (.s 27))⟩,
              ⟨none, some 8, .p (.mv (.s 28))⟩])] (.one .nil))
          (.seq
            (.ops [
                (none, [⟨none, some 29, .p (.mv (.s 5))⟩,
                ⟨none, some 30, .p (.mv (.s 7))⟩,
                ⟨none, some 31, .p (.bin .eql (.s 29) (.s 30))⟩,
                ⟨none, some 32, .p (.mv (.s 31))⟩]),
                (some (32, true), [⟨none, some 33, .p (.mv (.s 6))⟩,
                ⟨none, some 34, .p (.mv (.s 8))⟩,
                ⟨none, some 35, .p (.bin .eql (.s 33) (.s 34))⟩]),
                (none, [⟨none, some 36, .p (.pick (.s 32) (.s 35) (.c (.bool false)))⟩,
                ⟨none, some 37, .p (.mv (.s 36))⟩]),
                (some (37, true), [⟨none, some 38, .e (.call (.c (.func (.func 7) ⟨[]⟩ ⟨[]⟩)) [])⟩]),
                (none, [⟨none, some 39, .p (.pick (.s 37) (.s 38) (.c (.bool false)))⟩,
                ⟨none, some 4, .p (.mv (.s 39))⟩])] (.one (.tst (.one (.tst (.one .nil) (.one .nil))) (.one (.one (.one .nil))))))
            .ret)))))
theorem cfn3 : cfn Tryz.prog 3 = some ⟨40, 6, d3.erase, [(.s 4, none)]⟩ := by kernel_rfl
theorem ok3 : d3.ok 40 6 = true := by kernel_rfl
noncomputable def F3 (a0 a1 : Value) (H : Heap) (nx : Nat) (k : EP) : Prop :=
  dBox a0 fun tc_1 => wNew (.cells tc_1 0) .ptr H nx fun t2_2 H1 nx1 =>
  dBox a1 fun tc_3 => wNew (.cells tc_3 0) .ptr H1 nx1 fun t3_4 H2 nx2 =>
  wJoin (fun tj_5 =>
    wLd t2_2 (some 5) H2 fun t9_7 =>
    wCall Tryz.prog 5 [t9_7] H2 nx2 fun t10_8 H4 nx4 =>
    wGuard false t10_8 (
      wFld t3_4 1 fun t12_9 =>
      wLd t12_9 (some 3) H4 fun t13_10 =>
      wCall Tryz.prog 6 [(.slice none 0 0), t13_10] H4 nx4 fun t14_11 H5 nx5 =>
      tj_5 [t14_11] H5 nx5) (
      tj_5 [(.bool true)] H4 nx4)) (fun tL_6 H3 nx3 =>
    wIf (tL_6.getD 0 undef) (
      wCall Tryz.prog 7 [] H3 nx3 fun t16_12 H6 nx6 =>
      forceV t16_12 fun tv_13 => k tv_13 H6 nx6) (
      wLd t2_2 (some 5) H3 fun t18_14 =>
      wLd t3_4 (some 4) H3 fun t19_15 =>
      wCall Tryz.prog 8 [t18_14, t19_15] H3 nx3 fun t20_16 H7 nx7 =>
      wExt t20_16 0 fun t21_17 =>
      wExt t20_16 1 fun t22_18 =>
      wLd t2_2 (some 5) H7 fun t24_19 =>
      wLd t3_4 (some 4) H7 fun t25_20 =>
      wCall Tryz.prog 9 [t24_19, t25_20] H7 nx7 fun t26_21 H8 nx8 =>
      wExt t26_21 0 fun t27_22 =>
      wExt t26_21 1 fun t28_23 =>
      wBin .eql t21_17 t27_22 fun t31_24 =>
      wGuard true t31_24 (
        wBin .eql t22_18 t28_23 fun t35_25 =>
        wGuard true t35_25 (
          wCall Tryz.prog 7 [] H8 nx8 fun t38_26 H9 nx9 =>
          forceV t38_26 fun tv_27 => k tv_27 H9 nx9) (
          forceV (.bool false) fun tv_28 => k tv_28 H8 nx8)) (
          forceV (.bool false) fun tv_29 => k tv_29 H8 nx8)))
theorem eq3 (a0 a1 : Value) (H : Heap) (nx : Nat) (k : EP) : wBody Tryz.prog 40 6 d3 [(.s 4, none)] [a0, a1] H nx k = F3 a0 a1 H nx k := by kernel_rfl
theorem spec3 {a0 a1 : Value} {H : Heap} {nx : Nat} {k : EP} (h : F3 a0 a1 H nx k) : Ans Tryz.prog 3 [a0, a1] H nx k :=
  spec_of_body mixed namesOK cfn3 ok3 (by simp) ((eq3 a0 a1 H nx k).symm ▸ h)

end Go.Proofs.YthbdeaeghipliaaGreatDoor

set_option linter.unusedSimpArgs false
set_option linter.unusedVariables false
set_option linter.unusedSectionVars false
namespace Go.Proofs.YthbdeaeghipliaaGreatDoor
open Go.Clo

theorem qcode_items {q : QueryR} (h : qcode q = 0) : ∀ r ∈ q.rules, itemsCode r = 0 := by
  unfold qcode at h
  split at h
  · cases h
  split at h
  · cases h
  split at h
  · rename_i a3; exact absurd h a3
  split at h
  · rename_i a4; exact absurd h a4
  split at h
  · rename_i a5; exact absurd h a5
  rename_i a5
  have a5 : firstC (q.rules.map (ruleCode (neededOf q))) = 0 := by simpa using a5
  intro r hr
  have h2 := firstC_zero a5 r hr
  unfold ruleCode at h2
  split at h2
  · rename_i h3; exact absurd h2 h3
  rename_i h3
  simpa using h3
open Classical in
/-- The first j variables of a rule, as the names of body i. -/
noncomputable def partN (q : QueryR) (m i : Nat) (vs : List ByteArray) : List ByteArray := (vs.filter fun v => decide (v ∉ q.head)).map (sufS m i)
theorem partN_snoc (q : QueryR) {m i : Nat} {l : List ByteArray} {j : Nat} {s : ByteArray} (h : l[j]? = some s) (hm : s ∉ q.head) : partN q m i (l.take (j + 1)) = partN q m i (l.take j) ++ [sufS m i s] := by
  unfold partN
  rw [take_snocB h, List.filter_append, List.map_append, List.filter_cons_of_pos (by simpa using hm)]
  rfl
theorem partN_skip (q : QueryR) {m i : Nat} {l : List ByteArray} {j : Nat} {s : ByteArray} (h : l[j]? = some s) (hm : s ∈ q.head) : partN q m i (l.take (j + 1)) = partN q m i (l.take j) := by
  unfold partN
  rw [take_snocB h, List.filter_append, List.filter_cons_of_neg (by simpa using hm), List.filter_nil, List.append_nil]
theorem partN_len (q : QueryR) (m i : Nat) (l : List ByteArray) : (partN q m i l).length ≤ l.length := by
  unfold partN
  rw [List.length_map]
  exact List.length_filter_le _ _
theorem bodyN_len (q : QueryR) (m i : Nat) (r : RuleR) : (bodyN q m i r).length ≤ (varsOf r).length := by
  unfold bodyN
  split
  · exact partN_len q m i _
  · simp
theorem bodiesN_len (q : QueryR) (m : Nat) : ∀ (l : List RuleR) (i : Nat), (∀ r ∈ l, (varsOf r).length ≤ 8) → (bodiesN q m i l).length ≤ 8 * l.length
  | [], i, _ => by simp [bodiesN]
  | r :: l, i, h => by
    have h1 := bodiesN_len q m l (i + 1) fun r hr => h r (List.mem_cons_of_mem _ hr)
    have h2 := bodyN_len q m i r
    have h3 := h r List.mem_cons_self
    rw [bodiesN, List.length_append, List.length_cons]
    omega
theorem ordK_len {q : QueryR} (hF : QFacts q) : (ordK q).length ≤ 12 := by
  unfold ordK
  have h1 := restK_len q q.head
  have h2 := hF.head
  have h3 := hF.ordlen
  rw [List.length_append]
  omega
theorem ordL_len {q : QueryR} (hF : QFacts q) : (ordL q).length ≤ 12 := by
  rw [← ordK_var, List.length_map]; exact ordK_len hF

set_option maxHeartbeats 4000000 in
open Classical in
theorem names19 (q : QueryR) (mk : Nat) (h0 : 0 < mk) (hm : mk < 8) (hq : qcode q = 0) (H : Heap) (nx : Nat) (hQ : QueryOK H nx q) :
    Ans Tryz.prog 19 [.agg ⟨queryC q⟩, .int .u32 (mk : Int)] H nx fun v H' nx' => (∃ A cap, v = .slice A (namesOf q mk).length cap ∧ Sl H' nx' A (strs (namesOf q mk)) ∧ Has H' nx' A ∧ (A = none → cap = 0)) ∧ Ext H nx H' nx' := by
  refine spec19 ?_
  unfold F19
  unfold queryC
  have hF := qcode_facts hq
  have hI := qcode_items hq
  have hm32 : mk < 4294967296 := by omega
  have hok := ordK_len hF
  have hol := ordL_len hF
  have hr3 := hF.rules.2
  simp (disch := first | omega | assumption | exact shr_lt (by assumption) | exact ndiff32 (by assumption) | exact below_lt (by omega) | fail) only [wFld_eq, wNew_eq, dBox_agg, oneCells, wLd_none, wLd_2, ldP_cells, getH_same, getH_ne, forceV_eq, Yld.val, if_true, Nat.zero_add, Nat.add_zero, dBsl_none, wLd_5, cellP_lit5]
  generalize hK : hs (hs H nx (some (.cells [.slice q.HA q.head.length q.hc, .int .i64 q.agg, .string q.aggvar, .slice q.RA q.rules.length q.rc, .slice q.OA q.order.length q.oc] 0))) (nx + 1) (some (.cells [] 0)) = K
  have kl : getH K (nx + 1) = some (.cells [] 0) := by rw [← hK, getH_same]
  have kE : Ext H nx K (nx + 1 + 1) := ⟨by omega, fun i hi => by rw [← hK, getH_ne _ (by omega), getH_ne _ (by omega)]⟩
  have kq : getH K nx = some (.cells [.slice q.HA q.head.length q.hc, .int .i64 q.agg, .string q.aggvar, .slice q.RA q.rules.length q.rc, .slice q.OA q.order.length q.oc] 0) := by rw [← hK, getH_ne _ (by omega), getH_same]
  refine wCall_rule (order46 q K (nx + 1 + 1) (hQ.ext kE) hF.head hF.ordlen) ?_
  rintro _ H3 nx3 ⟨⟨OA, rfl, hOS, _⟩, hE3⟩
  have hn3 := hE3.le
  have hg3 := (hE3.get nx (by omega)).trans kq
  have hEE3 := kE.trans hE3
  have hacc0 : KP (fun _ => False) nx3 H3 nx3 (.slice (some ⟨nx + 1, 0, none⟩) 0 0) [] := .inl ⟨rfl, .inr ⟨nx + 1, by omega, rfl, (hE3.get (nx + 1) (by omega)).trans kl⟩⟩
  simp (disch := first | omega | assumption | exact shr_lt (by assumption) | exact ndiff32 (by assumption) | exact below_lt (by omega) | fail) only [wLen_slice]
  refine wLoop_rule (m := (ordK q).length) (fun m L H' nx' => ∃ (i : Nat) (u : Value), m + i = (ordK q).length ∧ L = [u, .int .i64 (i : Int)] ∧ KP (fun _ => False) nx3 H' nx' u (strs (((ordK q).take i).map KeyR.var)) ∧ Ext H3 nx3 H' nx') ?_ ⟨0, _, rfl, rfl, by simpa [strs] using hacc0, Ext.refl _ _⟩
  rintro m1 ih L H4 nx4 ⟨i, u, hm1, rfl, hu, hE4⟩ hih
  have hn4 := hE4.le
  have hg4 := (hE4.get nx (by omega)).trans hg3
  have hEE4 := hEE3.trans hE4
  simp (disch := first | omega | assumption | exact shr_lt (by assumption) | exact ndiff32 (by assumption) | exact below_lt (by omega) | fail) only [List.getD_cons_zero, List.getD_cons_succ, wBin_lss, wIf_bool, wBin_add64]
  by_cases hi : i < (ordK q).length
  case pos =>
    have hi' : (i : Int) < ((ordK q).length : Int) := by omega
    obtain ⟨k, hk⟩ : ∃ k, (ordK q)[i]? = some k := ⟨_, List.getElem?_eq_getElem hi⟩
    obtain ⟨b, o, row, hOA, hb, hrow, _, hcell⟩ := Sl.elem (hOS.ext hE4) keyC_len (by omega) hk
    unfold keyC at hcell
    rw [hOA]
    simp (disch := first | omega | assumption | exact shr_lt (by assumption) | exact ndiff32 (by assumption) | exact below_lt (by omega) | fail) only [oneCells, wLd_2, ldP_cells, cellP_one, getH_same, Option.elim_some, List.getElem?_cons_zero, decide_true, if_true, Nat.zero_add, true_and, and_self, wIdx_slice, Int.toNat_natCast, wSt_agg, stP_cells, List.length_cons, List.length_nil, Nat.le_refl, Nat.reduceAdd, hi', ldP_row hrow, hcell, putL_lit2, dBsl_s1]
    have hE5 : Ext H4 nx4 (hs (hs (hs H4 nx4 (some (.cells [.string ⟨#[]⟩, .bool false] 0))) nx4 (some (.cells [.string k.var, .bool k.desc] 0))) (nx4 + 1) (some (.cells [.string k.var] 0))) (nx4 + 1 + 1) := (((Ext.refl H4 nx4).new _ (Nat.le_refl _) (by omega) : Ext H4 nx4 _ (nx4 + 1)).hs (Nat.le_refl _)).new _ (by omega) (by omega)
    refine wApp_KP (H0 := H3) (lo := nx3) (hu.ext hE5) (src_new (getH_same _ _ _) rfl (by omega)) rfl (by rw [strs_length, List.length_map, List.length_take]; omega) (hE4.trans hE5) (by omega) (fun i h => h.elim) ?_
    intro v' H6 h1 h2 _ _
    try simp (disch := first | omega | assumption | exact shr_lt (by assumption) | exact ndiff32 (by assumption) | exact below_lt (by omega) | fail) only [List.getD_cons_zero, List.getD_cons_succ, wBin_lss, wBin_leq, wBin_gtr, wBin_geq, wBin_eql, wBin_neq, wIf_bool, wGuard_true, wGuard_false, wPick_true, wPick_false, wUn_not, wFld_eq, wExt_eq, wPart_one, wPart_agg, wLen_slice, wLen_string, wNew_eq, wNm_eq, dBox_agg, dBox_int, dBox_slice, dBox_string, dBox_bool, dBox_map, dBox_ptr, oneCells, wLd_none, wLd_2, wLd_3, wLd_32, ldP_cells, ldP_rom, cellP_one, getH_same, getH_ne, forceV_eq, forceN_eq, hsK_eq, Option.elim_some, List.getElem?_cons_zero, List.getElem?_cons_succ, Yld.val, decide_true, decide_false, if_true, if_false, Bool.false_eq_true, Nat.zero_add, Nat.add_zero, and_true, true_and, or_false, Bool.not_true, Bool.not_false, and_self, wBin_add64, wBin_sub64, wIdx_slice, wIdx_array, wNilc_eq, Int.toNat_natCast, Nat.mul_one, Nat.zero_mul, wSt_agg, wSt_int, wSt_bool, wSt_string, wSt_slice, wSt_ptr, wSt_map, wSt_func, stP_cells, bit_one, bit_zero, bit_one', bit_zero', wBin_shr32, wBin_and1, wBin_rem2, wBin_andNot32, wBin_or32, wBin_and32, wBin_shl32, u32_eq_zero, u32_ne_zero, List.length_cons, List.length_nil, Nat.le_refl, Nat.reduceAdd, Nat.reduceMul, Nat.reduceLeDiff, Int.toNat_zero, Int.toNat_one]
    refine hih (m1 - 1) _ _ _ (by omega) ⟨i + 1, v', by omega, by simp, ?_, h2⟩
    rw [take_snocB hk, List.map_append, List.map_cons, List.map_nil, ← strs_snoc]
    exact h1
  have hi' : ¬ (i : Int) < ((ordK q).length : Int) := by omega
  rw [List.take_of_length_le (by omega), ordK_var] at hu
  simp (disch := first | omega | assumption | exact shr_lt (by assumption) | exact ndiff32 (by assumption) | exact below_lt (by omega) | fail) only [wLen_slice, ldP_cells, cellP_one, Option.elim_some, List.getElem?_cons_zero, List.getElem?_cons_succ, decide_false, if_false, Bool.false_eq_true, hi', hg4]
  refine wLoop_rule (m := q.rules.length) (fun m L H' nx' => ∃ (i : Nat) (u : Value), m + i = q.rules.length ∧ L = [u, .int .i64 (i : Int)] ∧ KP (fun _ => False) nx3 H' nx' u (strs (ordL q ++ bodiesN q mk 0 (q.rules.take i))) ∧ Ext H3 nx3 H' nx') ?_ ⟨0, _, rfl, rfl, by simpa [bodiesN] using hu, hE4⟩
  clear hih hu hE4 hg4 hEE4 hn4
  rintro m2 ih2 L H5 nx5 ⟨i, u, hm2, rfl, hu, hE5⟩ hih2
  have hn5 := hE5.le
  have hg5 := (hE5.get nx (by omega)).trans hg3
  have hEE5 := hEE3.trans hE5
  simp (disch := first | omega | assumption | exact shr_lt (by assumption) | exact ndiff32 (by assumption) | exact below_lt (by omega) | fail) only [List.getD_cons_zero, List.getD_cons_succ, wBin_lss, wBin_eql, wIf_bool, wBin_add64, bit_zero', wBin_shr32, wBin_and1, u32_eq_zero]
  by_cases hi : i < q.rules.length
  case neg =>
    have hi' : ¬ (i : Int) < (q.rules.length : Int) := by omega
    rw [List.take_of_length_le (by omega)] at hu
    simp (disch := first | omega | assumption | exact shr_lt (by assumption) | exact ndiff32 (by assumption) | exact below_lt (by omega) | fail) only [decide_false, if_false, Bool.false_eq_true, hi']
    obtain ⟨A, cap, rfl, a1, a2, a3⟩ := hu.sl
    exact ⟨⟨A, cap, by rw [strs_length]; rfl, a1, a2, a3⟩, hEE5⟩
  have hi' : (i : Int) < (q.rules.length : Int) := by omega
  obtain ⟨r, hr⟩ : ∃ r, q.rules[i]? = some r := ⟨_, List.getElem?_eq_getElem hi⟩
  have hrm := List.mem_of_getElem? hr
  have hsnoc : bodiesN q mk 0 (q.rules.take (i + 1)) = bodiesN q mk 0 (q.rules.take i) ++ bodyN q mk i r := by
    rw [take_snocB hr, bodiesN_snoc, List.length_take, Nat.zero_add, Nat.min_eq_left (by omega)]
  have hbl := bodiesN_len q mk (q.rules.take i) 0 fun r hr => (hF.vars r (List.mem_of_mem_take hr)).1
  rw [List.length_take] at hbl
  have hv8 := hF.vars r hrm
  have hB := items_B (hI r hrm)
  obtain ⟨b, o, row, hRA, hb, hrow, _, hcell⟩ := Sl.elem (hQ.ext hEE5).rules ruleC_len (by omega) hr
  unfold ruleC at hcell
  rw [hRA]
  simp (disch := first | omega | assumption | exact shr_lt (by assumption) | exact ndiff32 (by assumption) | exact below_lt (by omega) | fail) only [wLd_2, decide_true, if_true, wIdx_slice, Int.toNat_natCast, hi']
  refine wJoin_rule (fun L H' nx' => ∃ u', L = [u'] ∧ KP (fun _ => False) nx3 H' nx' u' (strs (ordL q ++ bodiesN q mk 0 (q.rules.take (i + 1)))) ∧ Ext H3 nx3 H' nx') ?_ ?_
  case refine_2 =>
    rintro _ H8 nx8 ⟨u', rfl, h1, h2⟩
    simp (disch := first | omega | assumption | exact shr_lt (by assumption) | exact ndiff32 (by assumption) | exact below_lt (by omega) | fail) only [List.getD_cons_zero]
    exact hih2 (m2 - 1) _ _ _ (by omega) ⟨i + 1, u', by omega, by simp, h1, h2⟩
  intro tj hj
  have hE6 : Ext H5 nx5 (hs (hs H5 nx5 (some (.cells [.slice none 0 0, .slice none 0 0] 0))) nx5 (some (.cells [.slice r.AA r.atoms.length r.ac, .slice r.CA r.conds.length r.cc] 0))) (nx5 + 1) := ((Ext.refl H5 nx5).new _ (Nat.le_refl _) (by omega) : Ext H5 nx5 _ (nx5 + 1)).hs (Nat.le_refl _)
  cases hbit : mk.testBit i with
  | false =>
    simp (disch := first | omega | assumption | exact shr_lt (by assumption) | exact ndiff32 (by assumption) | exact below_lt (by omega) | fail) only [oneCells, getH_same, if_true, Nat.zero_add, true_and, Bool.not_false, and_self, wSt_agg, stP_cells, List.length_cons, List.length_nil, Nat.le_refl, Nat.reduceAdd, ldP_row hrow, hcell, putL_lit2]
    refine hj _ _ _ ⟨u, rfl, ?_, hE5.trans hE6⟩
    rw [hsnoc, bodyN, hbit, if_neg (by simp), List.append_nil]
    exact hu.ext hE6
  | true =>
    simp (disch := first | omega | assumption | exact shr_lt (by assumption) | exact ndiff32 (by assumption) | exact below_lt (by omega) | fail) only [oneCells, ldP_cells, getH_same, if_true, if_false, Bool.false_eq_true, Nat.zero_add, true_and, Bool.not_true, and_self, wSt_agg, stP_cells, List.length_cons, List.length_nil, Nat.le_refl, Nat.reduceAdd, ldP_row hrow, hcell, putL_lit2, cellP_lit2]
    generalize hs (hs H5 nx5 (some (.cells [.slice none 0 0, .slice none 0 0] 0))) nx5 (some (.cells [.slice r.AA r.atoms.length r.ac, .slice r.CA r.conds.length r.cc] 0)) = H6 at hE6 ⊢
    have hEE6 := hEE5.trans hE6
    refine wCall_rule (vars47 r H6 (nx5 + 1) ((hQ.rule r hrm).ext hEE6) hB) ?_
    rintro v7 H7 nx7 ⟨hv7, hE7⟩
    have hn7 := hE7.le
    obtain ⟨VA, rfl, hVS⟩ := acc_keep hv7
    have hu7 : KP (fun z => nx5 + 1 ≤ z ∧ z < nx7) nx3 H7 nx7 u (strs (ordL q ++ bodiesN q mk 0 (q.rules.take i))) := ((hu.ext hE6).keep _ fun z hz => hz.1).ext hE7
    have hE37 := (hE5.trans hE6).trans hE7
    simp (disch := first | omega | assumption | exact shr_lt (by assumption) | exact ndiff32 (by assumption) | exact below_lt (by omega) | fail) only [wLen_slice]
    refine wLoop_rule (m := (varsOf r).length) (fun m L H' nx' => ∃ (j : Nat) (u' : Value), m + j = (varsOf r).length ∧ L = [u', .int .i64 (j : Int)] ∧ KP (fun z => nx5 + 1 ≤ z ∧ z < nx7) nx3 H' nx' u' (strs ((ordL q ++ bodiesN q mk 0 (q.rules.take i)) ++ partN q mk i ((varsOf r).take j))) ∧ Ext H3 nx3 H' nx' ∧ (∀ z, nx5 + 1 ≤ z ∧ z < nx7 → getH H' z = getH H7 z) ∧ nx7 ≤ nx') ?_
      ⟨0, u, rfl, rfl, by simpa [partN] using hu7, hE37, fun z _ => rfl, Nat.le_refl _⟩
    rintro m9 ih9 L H9 nx9 ⟨j, u9, hm9, rfl, hu9, hE9, hk9, hn9⟩ hih9
    have hg9 := (hE9.get nx (by omega)).trans hg3
    have hEE9 := hEE3.trans hE9
    simp (disch := first | omega | assumption | exact shr_lt (by assumption) | exact ndiff32 (by assumption) | exact below_lt (by omega) | fail) only [List.getD_cons_zero, List.getD_cons_succ, wBin_lss, wIf_bool, wBin_add64]
    by_cases hj2 : j < (varsOf r).length
    case neg =>
      have hj' : ¬ (j : Int) < ((varsOf r).length : Int) := by omega
      have et : (varsOf r).take j = varsOf r := List.take_of_length_le (by omega)
      rw [et] at hu9
      simp (disch := first | omega | assumption | exact shr_lt (by assumption) | exact ndiff32 (by assumption) | exact below_lt (by omega) | fail) only [decide_false, if_false, Bool.false_eq_true, hj']
      refine hj _ _ _ ⟨u9, rfl, ?_, hE9⟩
      rw [hsnoc, bodyN, if_pos hbit, ← List.append_assoc]
      exact hu9.free
    have hj' : (j : Int) < ((varsOf r).length : Int) := by omega
    obtain ⟨s, hs⟩ : ∃ s, (varsOf r)[j]? = some s := ⟨_, List.getElem?_eq_getElem hj2⟩
    have hsm := List.mem_of_getElem? hs
    have hs16 := (nameV_size (hv8.2 s hsm)).2
    obtain ⟨b5, o5, row5, hVA, hb5, hrow5, hget5⟩ := (hVS H9 nx9 hk9 hn9).open (i := j) (by rw [strs_length]; omega)
    have g5 := hget5 _ _ (strs_get hs)
    have hlen9 : (strs ((ordL q ++ bodiesN q mk 0 (q.rules.take i)) ++ partN q mk i ((varsOf r).take j))).length ≤ 100000 := by
      have h1 := partN_len q mk i ((varsOf r).take j)
      rw [List.length_take] at h1
      have := hv8.1
      rw [strs_length, List.length_append, List.length_append]
      omega
    rw [hVA]
    simp (disch := first | omega | assumption | exact shr_lt (by assumption) | exact ndiff32 (by assumption) | exact below_lt (by omega) | fail) only [List.getD_cons_zero, wLd_none, ldP_cells, cellP_one, Option.elim_some, List.getElem?_cons_zero, decide_true, if_true, wIdx_slice, Int.toNat_natCast, Nat.mul_one, hj', ldP_row hrow5, g5, hg9, wJoin_eq]
    refine wCall_rule (contains23 q.HA q.head s q.hc H9 nx9 (hQ.head.ext hEE9) (by have := hF.head; omega)) ?_
    rintro _ _ _ ⟨rfl, rfl, rfl⟩
    by_cases hmem : s ∈ q.head
    · have dm : decide (0 ≤ idxOf q.head s) = true := by rw [in_idx]; exact decide_eq_true hmem
      rw [dm]
      simp (disch := first | omega | assumption | exact shr_lt (by assumption) | exact ndiff32 (by assumption) | exact below_lt (by omega) | fail) only [wIf_bool, if_true]
      exact hih9 (m9 - 1) _ _ _ (by omega) ⟨j + 1, u9, by omega, by simp, by rw [partN_skip q hs hmem]; exact hu9, hE9, hk9, hn9⟩
    have dm : decide (0 ≤ idxOf q.head s) = false := by rw [in_idx]; exact decide_eq_false hmem
    rw [dm]
    have fin : ∀ t : ByteArray, t = sufS mk i s → wApp u9 (.slice (some ⟨nx9, 0, none⟩) 1 1) 1 16 (Go.Clo.hs H9 nx9 (some (.cells [.string t] 0))) (nx9 + 1) fun v' H' nx' => ih9 [v', .int .i64 ((j : Int) + 1)] H' nx' := by
      rintro t rfl
      have hX : Ext H9 nx9 (Go.Clo.hs H9 nx9 (some (.cells [.string (sufS mk i s)] 0))) (nx9 + 1) := (Ext.refl _ _).new _ (Nat.le_refl _) (by omega)
      refine wApp_KP (H0 := H3) (lo := nx3) (hu9.ext hX) (src_new (getH_same _ _ _) rfl (by omega)) rfl hlen9 (hE9.trans hX) (by omega) (fun z hz => by omega) ?_
      intro v' H' h1 h2 h3 _
      refine hih9 (m9 - 1) _ _ _ (by omega) ⟨j + 1, v', by omega, by simp, ?_, h2, fun z hz => ?_, by omega⟩
      · rw [partN_snoc q hs hmem, ← List.append_assoc, ← strs_snoc]
        exact h1
      · rw [h3 z hz, getH_ne _ (by omega)]
        exact hk9 z hz
    cases hmu : multiM mk with
    | false =>
      simp (disch := first | omega | assumption | exact shr_lt (by assumption) | exact ndiff32 (by assumption) | exact below_lt (by omega) | fail) only [wIf_bool, if_false, Bool.false_eq_true, multi_m h0 hm, hmu, dBsl_s1]
      exact fin s (by rw [sufS, hmu, if_neg (by simp)])
    | true =>
      have hd : (digS i).size = 1 := rfl
      simp (disch := first | omega | assumption | exact shr_lt (by assumption) | exact ndiff32 (by assumption) | exact below_lt (by omega) | fail) only [wIf_bool, if_true, if_false, Bool.false_eq_true, multi_m h0 hm, hmu]
      refine wCall_rule (itoa18 i (by omega) H9 nx9) ?_
      rintro _ _ _ ⟨rfl, rfl, rfl⟩
      rw [wBin_stradd _ _ (by show 1 + _ ≤ _; omega), wBin_stradd _ _ (by rw [ByteArray.size_append]; show _ + (1 + _) ≤ _; omega)]
      simp (disch := first | omega | assumption | exact shr_lt (by assumption) | exact ndiff32 (by assumption) | exact below_lt (by omega) | fail) only [dBsl_s1]
      exact fin _ (by rw [sufS, if_pos hmu])
end Go.Proofs.YthbdeaeghipliaaGreatDoor

set_option linter.unusedSimpArgs false
set_option linter.unusedVariables false
set_option linter.unusedSectionVars false
namespace Go.Proofs.YthbdeaeghipliaaGreatDoor
open Go.Clo

theorem conv_m {i : Nat} (hi : i < 3) (k : VP) : wConv .u8 (.int .i64 (49 + (i : Int))) k = k (.int .u8 (49 + (i : Int))) := by
  have h2 : i = 0 ∨ i = 1 ∨ i = 2 := by omega
  rcases h2 with rfl | rfl | rfl <;> rfl
theorem dBsl_u8 (z : Int) (k : List Value → Prop) : dBsl 1 1 [.int .u8 0] [(0, .int .u8 z)] k = k [.int .u8 z] := rfl
theorem wStr_m {i : Nat} (hi : i < 3) {H : Heap} {b : Nat} (hg : getH H b = some (.cells [.int .u8 (49 + (i : Int))] 0)) (k : VP) : wStr (.slice (some ⟨b, 0, none⟩) 1 1) H k = k (.string (digS i)) := by
  unfold wStr rowK
  dsimp only
  rw [getB_eq, hg]
  have h2 : i = 0 ∨ i = 1 ∨ i = 2 := by omega
  rcases h2 with rfl | rfl | rfl <;> rfl
theorem KP.put {R : Nat → Prop} {lo i : Nat} {H : Heap} {nx : Nat} {v : Value} {c : List Value} (h : KP R lo H nx v c) (hi : i < lo) (hm : ∃ es c, getH H i = some (.map es c)) (b : Option Blk) : KP R lo (hs H i b) nx v c := by
  rcases h with ⟨hc, h | ⟨x, h2, h3, h4⟩⟩ | ⟨x, h1, h2, h3, h4, h5⟩
  · exact .inl ⟨hc, .inl h⟩
  · refine .inl ⟨hc, .inr ⟨x, h2, h3, ?_⟩⟩
    obtain ⟨es, c', hm⟩ := hm
    rw [getH_ne _ (fun e => by subst e; rw [hm] at h4; cases h4)]
    exact h4
  · exact .inr ⟨x, h1, h2, h3, h4, by rw [getH_ne _ (by omega)]; exact h5⟩
theorem SetM.map {H : Heap} {r : Nat} {S : ByteArray → Bool} (h : SetM H r S) : ∃ es c, getH H r = some (.map es c) := by
  obtain ⟨es, c, h, _⟩ := h
  exact ⟨es, c, h⟩
/-- A slice whose block lies at lo or above stays while what lies there stays. -/
theorem sl_from {lo : Nat} {H : Heap} {nx : Nat} {A : Option Addr} {c : List Value} {H' : Heap} {nx' : Nat} (h : Sl H nx A c) (hA : ∀ a, A = some a → lo ≤ a.block) (hk : ∀ z, lo ≤ z → z < nx → getH H' z = getH H z) (hn : nx ≤ nx') : Sl H' nx' A c := by
  intro i u hu
  obtain ⟨b, o, row, rfl, hb, hrow, hg⟩ := h i u hu
  refine ⟨b, o, row, rfl, by omega, ?_, hg⟩
  unfold rowOf at hrow ⊢
  rw [hk b (hA _ rfl) hb]
  exact hrow
theorem ordL_head {q : QueryR} (hF : QFacts q) (s : ByteArray) : s ∈ ordL q ↔ s ∈ q.head := by
  unfold ordL
  rw [List.mem_append]
  constructor
  · rintro (h | h)
    · obtain ⟨k, hk, rfl⟩ := List.mem_map.1 h
      exact hF.order k hk
    · exact (List.mem_filter.1 h).1
  · intro h
    by_cases h2 : s ∈ q.order.map KeyR.var
    · exact .inl h2
    · exact .inr (List.mem_filter.2 ⟨h, by simpa using h2⟩)
end Go.Proofs.YthbdeaeghipliaaGreatDoor

set_option linter.unusedSimpArgs false
set_option linter.unusedVariables false
set_option linter.unusedSectionVars false
namespace Go.Proofs.YthbdeaeghipliaaGreatDoor
open Go.Clo

set_option maxHeartbeats 4000000 in
open Classical in
theorem names22 (q : QueryR) (mk : Nat) (h0 : 0 < mk) (hm : mk < 8) (hq : qcode q = 0) (H : Heap) (nx : Nat) (hQ : QueryOK H nx q) :
    Ans Tryz.prog 22 [.agg ⟨queryC q⟩, .int .u32 (mk : Int)] H nx fun v H' nx' => (∃ A cap, v = .slice A (namesOf q mk).length cap ∧ Sl H' nx' A (strs (namesOf q mk)) ∧ Has H' nx' A ∧ (A = none → cap = 0)) ∧ Ext H nx H' nx' := by
  refine spec22 ?_
  unfold F22
  unfold queryC
  have hF := qcode_facts hq
  have hI := qcode_items hq
  have hm32 : mk < 4294967296 := by omega
  have hok := ordK_len hF
  have hol := ordL_len hF
  have hr3 := hF.rules.2
  simp (disch := first | omega | assumption | exact shr_lt (by assumption) | exact ndiff32 (by assumption) | exact below_lt (by omega) | fail) only [wFld_eq, wNew_eq, dBox_agg, oneCells, wLd_none, wLd_2, ldP_cells, getH_same, getH_ne, forceV_eq, Yld.val, if_true, Nat.zero_add, Nat.add_zero, dMmap_noneQ, wLd_5, cellP_lit5]
  generalize hK : hs (hs H nx (some (.cells [.slice q.HA q.head.length q.hc, .int .i64 q.agg, .string q.aggvar, .slice q.RA q.rules.length q.rc, .slice q.OA q.order.length q.oc] 0))) (nx + 1) (some (.map [] 0)) = K
  have kl : getH K (nx + 1) = some (.map [] 0) := by rw [← hK, getH_same]
  have kE : Ext H nx K (nx + 1 + 1) := ⟨by omega, fun i hi => by rw [← hK, getH_ne _ (by omega), getH_ne _ (by omega)]⟩
  have kq : getH K nx = some (.cells [.slice q.HA q.head.length q.hc, .int .i64 q.agg, .string q.aggvar, .slice q.RA q.rules.length q.rc, .slice q.OA q.order.length q.oc] 0) := by rw [← hK, getH_ne _ (by omega), getH_same]
  refine wCall_rule (order46 q K (nx + 1 + 1) (hQ.ext kE) hF.head hF.ordlen) ?_
  rintro _ H3 nx3 ⟨⟨OA, rfl, hOS, hOlo⟩, hE3⟩
  have hn3 := hE3.le
  have hg3 := (hE3.get nx (by omega)).trans kq
  have hEE3 := kE.trans hE3
  have hS3 := SetM.nil ((hE3.get (nx + 1) (by omega)).trans kl)
  simp (disch := first | omega | assumption | exact shr_lt (by assumption) | exact ndiff32 (by assumption) | exact below_lt (by omega) | fail) only [wLen_slice]
  refine wLoop_rule (m := (ordK q).length) (fun m L H' nx' => ∃ (i : Nat) (u : Value), m + i = (ordK q).length ∧ L = [u, .int .i64 (i : Int)] ∧ KP (fun _ => False) nx3 H' nx' u (strs (((ordK q).take i).map KeyR.var)) ∧ (∃ S : ByteArray → Bool, SetM H' (nx + 1) S ∧ ∀ s, S s = true ↔ s ∈ ((ordK q).take i).map KeyR.var) ∧ nx3 ≤ nx' ∧ ∀ z, z < nx3 → z ≠ nx + 1 → getH H' z = getH H3 z) ?_
    ⟨0, _, rfl, rfl, .inl ⟨rfl, .inl rfl⟩, ⟨_, hS3, fun s => by simp⟩, Nat.le_refl _, fun z _ _ => rfl⟩
  rintro m1 ih L H4 nx4 ⟨i, u, hm1, rfl, hu, ⟨S, hS, hSs⟩, hn4, hlow⟩ hih
  have hg4 := (hlow nx (by omega) (by omega)).trans hg3
  have hEE4 : Ext H nx H4 nx4 := ⟨by omega, fun z hz => (hlow z (by omega) (by omega)).trans (hEE3.get z hz)⟩
  have hOS4 := sl_from (H' := H4) (nx' := nx4) hOS hOlo (fun z h1 h2 => hlow z h2 (by omega)) hn4
  simp (disch := first | omega | assumption | exact shr_lt (by assumption) | exact ndiff32 (by assumption) | exact below_lt (by omega) | fail) only [List.getD_cons_zero, List.getD_cons_succ, wBin_lss, wIf_bool, wBin_add64]
  by_cases hi : i < (ordK q).length
  case pos =>
    have hi' : (i : Int) < ((ordK q).length : Int) := by omega
    obtain ⟨k, hk⟩ : ∃ k, (ordK q)[i]? = some k := ⟨_, List.getElem?_eq_getElem hi⟩
    obtain ⟨b, o, row, hOA, hb, hrow, _, hcell⟩ := Sl.elem hOS4 keyC_len (by omega) hk
    unfold keyC at hcell
    rw [hOA]
    simp (disch := first | omega | assumption | exact shr_lt (by assumption) | exact ndiff32 (by assumption) | exact below_lt (by omega) | fail) only [oneCells, wLd_2, ldP_cells, cellP_one, getH_same, Option.elim_some, List.getElem?_cons_zero, decide_true, if_true, Nat.zero_add, true_and, and_self, wIdx_slice, Int.toNat_natCast, wSt_agg, stP_cells, List.length_cons, List.length_nil, Nat.le_refl, Nat.reduceAdd, hi', ldP_row hrow, hcell, putL_lit2, dBsl_s1]
    have hE5 : Ext H4 nx4 (hs (hs (hs H4 nx4 (some (.cells [.string ⟨#[]⟩, .bool false] 0))) nx4 (some (.cells [.string k.var, .bool k.desc] 0))) (nx4 + 1) (some (.cells [.string k.var] 0))) (nx4 + 1 + 1) := (((Ext.refl H4 nx4).new _ (Nat.le_refl _) (by omega) : Ext H4 nx4 _ (nx4 + 1)).hs (Nat.le_refl _)).new _ (by omega) (by omega)
    have hg5 : getH (hs (hs (hs H4 nx4 (some (.cells [.string ⟨#[]⟩, .bool false] 0))) nx4 (some (.cells [.string k.var, .bool k.desc] 0))) (nx4 + 1) (some (.cells [.string k.var] 0))) nx4 = some (.cells [.string k.var, .bool k.desc] 0) := by rw [getH_ne _ (by omega), getH_same]
    have hu5 := (hu.keep (fun z => z = nx4) fun z hz => by omega).ext hE5
    refine wApp_KP (H0 := H4) (lo := nx3) hu5 (src_new (getH_same _ _ _) rfl (by omega)) rfl (by rw [strs_length, List.length_map, List.length_take]; omega) ⟨by omega, fun z hz => hE5.get z (by omega)⟩ (by omega) (fun z hz => by omega) ?_
    intro v' H6 h1 h2 h3 h4
    have hg6 := (h3 nx4 rfl).trans hg5
    have hS6 : SetM H6 (nx + 1) S := (hS.ext (by omega) hE5).same (h4 (nx + 1) (by omega))
    simp (disch := first | omega | assumption | exact shr_lt (by assumption) | exact ndiff32 (by assumption) | exact below_lt (by omega) | fail) only [ldP_cells, cellP_one, Option.elim_some, List.getElem?_cons_zero, hg6]
    refine hS6.put k.var ?_
    intro blk hput
    refine hih (m1 - 1) _ _ _ (by omega) ⟨i + 1, v', by omega, by simp, ?_, ⟨_, hput, fun s => ?_⟩, by omega, fun z hz hz2 => ?_⟩
    · rw [take_snocB hk, List.map_append, List.map_cons, List.map_nil, ← strs_snoc]
      exact h1.free.put (by omega) (SetM.map hS6) _
    · rw [Bool.or_eq_true, hSs, decide_eq_true_eq, take_snocB hk, List.map_append, List.mem_append, List.map_cons, List.map_nil, List.mem_singleton]
    · rw [getH_ne _ (by omega), h2.get z hz]
      exact hlow z hz hz2
  have hi' : ¬ (i : Int) < ((ordK q).length : Int) := by omega
  have et : (ordK q).take i = ordK q := List.take_of_length_le (by omega)
  rw [et, ordK_var] at hu hSs
  have hSh : ∀ s, S s = true ↔ s ∈ q.head := fun s => by
    have := hSs s
    rw [ordL_head hF] at this
    exact this
  simp (disch := first | omega | assumption | exact shr_lt (by assumption) | exact ndiff32 (by assumption) | exact below_lt (by omega) | fail) only [wLen_slice, ldP_cells, cellP_one, Option.elim_some, List.getElem?_cons_zero, List.getElem?_cons_succ, decide_false, if_false, Bool.false_eq_true, hi', hg4]
  refine wLoop_rule (m := q.rules.length) (fun m L H' nx' => ∃ (i : Nat) (u : Value), m + i = q.rules.length ∧ L = [u, .int .i64 (i : Int)] ∧ KP (fun _ => False) nx3 H' nx' u (strs (ordL q ++ bodiesN q mk 0 (q.rules.take i))) ∧ Ext H4 nx3 H' nx') ?_ ⟨0, _, rfl, rfl, by simpa [bodiesN] using hu, ⟨hn4, fun _ _ => rfl⟩⟩
  clear hih hu
  rintro m2 ih2 L H5 nx5 ⟨i, u, hm2, rfl, hu, hE5⟩ hih2
  have hn5 := hE5.le
  have hg5 := (hE5.get nx (by omega)).trans hg4
  have hEE5 : Ext H nx H5 nx5 := ⟨by omega, fun z hz => (hE5.get z (by omega)).trans (hEE4.get z hz)⟩
  simp (disch := first | omega | assumption | exact shr_lt (by assumption) | exact ndiff32 (by assumption) | exact below_lt (by omega) | fail) only [List.getD_cons_zero, List.getD_cons_succ, wBin_lss, wBin_eql, wIf_bool, wBin_add64, bit_zero', wBin_shr32, wBin_rem2, u32_eq_zero]
  by_cases hi : i < q.rules.length
  case neg =>
    have hi' : ¬ (i : Int) < (q.rules.length : Int) := by omega
    rw [List.take_of_length_le (by omega)] at hu
    simp (disch := first | omega | assumption | exact shr_lt (by assumption) | exact ndiff32 (by assumption) | exact below_lt (by omega) | fail) only [decide_false, if_false, Bool.false_eq_true, hi']
    obtain ⟨A, cap, rfl, a1, a2, a3⟩ := hu.sl
    exact ⟨⟨A, cap, by rw [strs_length]; rfl, a1, a2, a3⟩, hEE5⟩
  have hi' : (i : Int) < (q.rules.length : Int) := by omega
  obtain ⟨r, hr⟩ : ∃ r, q.rules[i]? = some r := ⟨_, List.getElem?_eq_getElem hi⟩
  have hrm := List.mem_of_getElem? hr
  have hsnoc : bodiesN q mk 0 (q.rules.take (i + 1)) = bodiesN q mk 0 (q.rules.take i) ++ bodyN q mk i r := by
    rw [take_snocB hr, bodiesN_snoc, List.length_take, Nat.zero_add, Nat.min_eq_left (by omega)]
  have hbl := bodiesN_len q mk (q.rules.take i) 0 fun r hr => (hF.vars r (List.mem_of_mem_take hr)).1
  rw [List.length_take] at hbl
  have hv8 := hF.vars r hrm
  have hB := items_B (hI r hrm)
  obtain ⟨b, o, row, hRA, hb, hrow, _, hcell⟩ := Sl.elem (hQ.ext hEE5).rules ruleC_len (by omega) hr
  unfold ruleC at hcell
  rw [hRA]
  simp (disch := first | omega | assumption | exact shr_lt (by assumption) | exact ndiff32 (by assumption) | exact below_lt (by omega) | fail) only [wLd_2, decide_true, if_true, wIdx_slice, Int.toNat_natCast, hi']
  refine wJoin_rule (fun L H' nx' => ∃ u', L = [u'] ∧ KP (fun _ => False) nx3 H' nx' u' (strs (ordL q ++ bodiesN q mk 0 (q.rules.take (i + 1)))) ∧ Ext H4 nx3 H' nx') ?_ ?_
  case refine_2 =>
    rintro _ H8 nx8 ⟨u', rfl, h1, h2⟩
    simp (disch := first | omega | assumption | exact shr_lt (by assumption) | exact ndiff32 (by assumption) | exact below_lt (by omega) | fail) only [List.getD_cons_zero]
    exact hih2 (m2 - 1) _ _ _ (by omega) ⟨i + 1, u', by omega, by simp, h1, h2⟩
  intro tj hj
  have hE6 : Ext H5 nx5 (hs (hs H5 nx5 (some (.cells [.slice none 0 0, .slice none 0 0] 0))) nx5 (some (.cells [.slice r.AA r.atoms.length r.ac, .slice r.CA r.conds.length r.cc] 0))) (nx5 + 1) := ((Ext.refl H5 nx5).new _ (Nat.le_refl _) (by omega) : Ext H5 nx5 _ (nx5 + 1)).hs (Nat.le_refl _)
  have up : ∀ {H' nx'}, Ext H5 nx5 H' nx' → Ext H4 nx3 H' nx' := fun {H' nx'} e => ⟨by have := e.le; omega, fun z hz => (e.get z (by omega)).trans (hE5.get z hz)⟩
  cases hbit : mk.testBit i with
  | false =>
    simp (disch := first | omega | assumption | exact shr_lt (by assumption) | exact ndiff32 (by assumption) | exact below_lt (by omega) | fail) only [oneCells, getH_same, if_true, Nat.zero_add, true_and, Bool.not_false, and_self, wSt_agg, stP_cells, List.length_cons, List.length_nil, Nat.le_refl, Nat.reduceAdd, ldP_row hrow, hcell, putL_lit2]
    refine hj _ _ _ ⟨u, rfl, ?_, up hE6⟩
    rw [hsnoc, bodyN, hbit, if_neg (by simp), List.append_nil]
    exact hu.ext hE6
  | true =>
    simp (disch := first | omega | assumption | exact shr_lt (by assumption) | exact ndiff32 (by assumption) | exact below_lt (by omega) | fail) only [oneCells, ldP_cells, getH_same, if_true, if_false, Bool.false_eq_true, Nat.zero_add, true_and, Bool.not_true, and_self, wSt_agg, stP_cells, List.length_cons, List.length_nil, Nat.le_refl, Nat.reduceAdd, ldP_row hrow, hcell, putL_lit2, cellP_lit2]
    generalize hs (hs H5 nx5 (some (.cells [.slice none 0 0, .slice none 0 0] 0))) nx5 (some (.cells [.slice r.AA r.atoms.length r.ac, .slice r.CA r.conds.length r.cc] 0)) = H6 at hE6 ⊢
    have hEE6 := hEE5.trans hE6
    refine wCall_rule (vars47 r H6 (nx5 + 1) ((hQ.rule r hrm).ext hEE6) hB) ?_
    rintro v7 H7 nx7 ⟨hv7, hE7⟩
    have hn7 := hE7.le
    obtain ⟨VA, rfl, hVS⟩ := acc_keep hv7
    have hu7 : KP (fun z => nx5 + 1 ≤ z ∧ z < nx7) nx3 H7 nx7 u (strs (ordL q ++ bodiesN q mk 0 (q.rules.take i))) := ((hu.ext hE6).keep _ fun z hz => hz.1).ext hE7
    have hE37 := up (hE6.trans hE7)
    simp (disch := first | omega | assumption | exact shr_lt (by assumption) | exact ndiff32 (by assumption) | exact below_lt (by omega) | fail) only [wLen_slice]
    refine wLoop_rule (m := (varsOf r).length) (fun m L H' nx' => ∃ (j : Nat) (u' : Value), m + j = (varsOf r).length ∧ L = [u', .int .i64 (j : Int)] ∧ KP (fun z => nx5 + 1 ≤ z ∧ z < nx7) nx3 H' nx' u' (strs ((ordL q ++ bodiesN q mk 0 (q.rules.take i)) ++ partN q mk i ((varsOf r).take j))) ∧ Ext H4 nx3 H' nx' ∧ (∀ z, nx5 + 1 ≤ z ∧ z < nx7 → getH H' z = getH H7 z) ∧ nx7 ≤ nx') ?_
      ⟨0, u, rfl, rfl, by simpa [partN] using hu7, hE37, fun z _ => rfl, Nat.le_refl _⟩
    rintro m9 ih9 L H9 nx9 ⟨j, u9, hm9, rfl, hu9, hE9, hk9, hn9⟩ hih9
    have hS9 := hS.ext (nx := nx3) (by omega) hE9
    simp (disch := first | omega | assumption | exact shr_lt (by assumption) | exact ndiff32 (by assumption) | exact below_lt (by omega) | fail) only [List.getD_cons_zero, List.getD_cons_succ, wBin_lss, wIf_bool, wBin_add64]
    by_cases hj2 : j < (varsOf r).length
    case neg =>
      have hj' : ¬ (j : Int) < ((varsOf r).length : Int) := by omega
      have et : (varsOf r).take j = varsOf r := List.take_of_length_le (by omega)
      rw [et] at hu9
      simp (disch := first | omega | assumption | exact shr_lt (by assumption) | exact ndiff32 (by assumption) | exact below_lt (by omega) | fail) only [decide_false, if_false, Bool.false_eq_true, hj']
      refine hj _ _ _ ⟨u9, rfl, ?_, hE9⟩
      rw [hsnoc, bodyN, if_pos hbit, ← List.append_assoc]
      exact hu9.free
    have hj' : (j : Int) < ((varsOf r).length : Int) := by omega
    obtain ⟨s, hs⟩ : ∃ s, (varsOf r)[j]? = some s := ⟨_, List.getElem?_eq_getElem hj2⟩
    have hsm := List.mem_of_getElem? hs
    have hs16 := (nameV_size (hv8.2 s hsm)).2
    obtain ⟨b5, o5, row5, hVA, hb5, hrow5, hget5⟩ := (hVS H9 nx9 hk9 hn9).open (i := j) (by rw [strs_length]; omega)
    have g5 := hget5 _ _ (strs_get hs)
    have hlen9 : (strs ((ordL q ++ bodiesN q mk 0 (q.rules.take i)) ++ partN q mk i ((varsOf r).take j))).length ≤ 100000 := by
      have h1 := partN_len q mk i ((varsOf r).take j)
      rw [List.length_take] at h1
      have := hv8.1
      rw [strs_length, List.length_append, List.length_append]
      omega
    rw [hVA]
    cases hv : S s with
    | true =>
      have hmem := (hSh s).1 hv
      simp (disch := first | omega | assumption | exact shr_lt (by assumption) | exact ndiff32 (by assumption) | exact below_lt (by omega) | fail) only [List.getD_cons_zero, wIf_bool, wLd_none, cellP_one, Option.elim_some, decide_true, if_true, wIdx_slice, Int.toNat_natCast, Nat.mul_one, hj', ldP_row hrow5, g5, wJoin_eq, hS9.lk, hv]
      exact hih9 (m9 - 1) _ _ _ (by omega) ⟨j + 1, u9, by omega, by simp, by rw [partN_skip q hs hmem]; exact hu9, hE9, hk9, hn9⟩
    | false =>
      have hmem : s ∉ q.head := fun h => by rw [(hSh s).2 h] at hv; cases hv
      have fin : ∀ (t : ByteArray) (Hx : Heap) (nxx : Nat), Ext H9 nx9 Hx nxx → t = sufS mk i s → wApp u9 (.slice (some ⟨nxx, 0, none⟩) 1 1) 1 16 (Go.Clo.hs Hx nxx (some (.cells [.string t] 0))) (nxx + 1) fun v' H' nx' => ih9 [v', .int .i64 ((j : Int) + 1)] H' nx' := by
        rintro t Hx nxx hx rfl
        have hxl := hx.le
        have hX : Ext H9 nx9 (Go.Clo.hs Hx nxx (some (.cells [.string (sufS mk i s)] 0))) (nxx + 1) := hx.new _ (by omega) (by omega)
        refine wApp_KP (H0 := H4) (lo := nx3) (hu9.ext hX) (src_new (getH_same _ _ _) rfl (by omega)) rfl hlen9 ⟨by have := hE9.le; omega, fun z hz => (hX.get z (by have := hE9.le; omega)).trans (hE9.get z hz)⟩ (by omega) (fun z hz => by omega) ?_
        intro v' H' h1 h2 h3 _
        refine hih9 (m9 - 1) _ _ _ (by omega) ⟨j + 1, v', by omega, by simp, ?_, h2, fun z hz => ?_, by omega⟩
        · rw [partN_snoc q hs hmem, ← List.append_assoc, ← strs_snoc]
          exact h1
        · rw [h3 z hz, hX.get z (by omega)]
          exact hk9 z hz
      cases hmu : multiM mk with
      | false =>
        simp (disch := first | omega | assumption | exact shr_lt (by assumption) | exact ndiff32 (by assumption) | exact below_lt (by omega) | fail) only [List.getD_cons_zero, wIf_bool, wLd_none, cellP_one, Option.elim_some, decide_true, if_true, if_false, Bool.false_eq_true, wIdx_slice, Int.toNat_natCast, Nat.mul_one, hj', ldP_row hrow5, g5, wJoin_eq, hS9.lk, hv, multi_m h0 hm, hmu, dBsl_s1]
        exact fin s H9 nx9 (Ext.refl _ _) (by rw [sufS, hmu, if_neg (by simp)])
      | true =>
        have hd : (digS i).size = 1 := rfl
        have hX9 : Ext H9 nx9 (Go.Clo.hs H9 nx9 (some (.cells [.int .u8 (49 + (i : Int))] 0))) (nx9 + 1) := (Ext.refl _ _).new _ (Nat.le_refl _) (by omega)
        simp (disch := first | omega | assumption | exact shr_lt (by assumption) | exact ndiff32 (by assumption) | exact below_lt (by omega) | fail) only [List.getD_cons_zero, wIf_bool, wLd_none, cellP_one, Option.elim_some, decide_true, if_true, if_false, Bool.false_eq_true, wIdx_slice, Int.toNat_natCast, Nat.mul_one, hj', ldP_row hrow5, g5, wJoin_eq, hS9.lk, hv, multi_m h0 hm, hmu, conv_m (show i < 3 by omega), dBsl_u8]
        rw [wStr_m (show i < 3 by omega) (getH_same _ _ _)]
        rw [wBin_stradd _ _ (by show 1 + _ ≤ _; omega), wBin_stradd _ _ (by rw [ByteArray.size_append]; show _ + (1 + _) ≤ _; omega)]
        simp (disch := first | omega | assumption | exact shr_lt (by assumption) | exact ndiff32 (by assumption) | exact below_lt (by omega) | fail) only [dBsl_s1]
        exact fin _ _ _ hX9 (by rw [sufS, if_pos hmu])
end Go.Proofs.YthbdeaeghipliaaGreatDoor

set_option linter.unusedSimpArgs false
set_option linter.unusedVariables false
set_option linter.unusedSectionVars false
namespace Go.Proofs.YthbdeaeghipliaaGreatDoor
open Go.Clo

def refB : ByteArray := ⟨#[114, 101, 102, 117, 115, 101, 100]⟩
def colB : ByteArray := ⟨#[58, 32]⟩
/-- The digits of the bodies among the first n. -/
def digsN (mk n : Nat) : List ByteArray := ((List.range n).filter fun i => mk.testBit i).map digS
theorem digsN_one {mk i : Nat} (h : mk.testBit i = true) : digsN mk (i + 1) = digsN mk i ++ [digS i] := by
  unfold digsN
  rw [List.range_succ, List.filter_append, List.map_append, List.filter_cons_of_pos h]; rfl
theorem digsN_zero {mk i : Nat} (h : mk.testBit i = false) : digsN mk (i + 1) = digsN mk i := by
  unfold digsN
  rw [List.range_succ, List.filter_append, List.map_append, List.filter_cons_of_neg (by simp [h])]; simp
theorem digsN_len (mk n : Nat) : (digsN mk n).length ≤ n := by
  unfold digsN
  have := List.length_filter_le (fun i => mk.testBit i) (List.range n)
  rw [List.length_range] at this
  rw [List.length_map]; exact this
theorem digsN_size (mk n : Nat) : ∀ z ∈ digsN mk n, z.size ≤ 60 := by
  intro z hz
  obtain ⟨i, _, rfl⟩ := List.mem_map.1 hz
  show 1 ≤ 60
  omega
theorem catD_size (mk n : Nat) (hn : n ≤ 3) : (catS (digsN mk n)).size ≤ 183 := by
  have h1 := catS_size _ (digsN_size mk n)
  have h2 := digsN_len mk n
  omega
/-- The text of a refusal. -/
noncomputable def resV (q : QueryR) (mk : Nat) (kind : Int) (l : List Int) : ByteArray × Int :=
  if qcode q ≠ 0 then (⟨#[]⟩, qcode q) else if mk = 0 ∨ mk >>> q.rules.length ≠ 0 then (⟨#[]⟩, 3)
  else if (textOf (namesOf q mk) kind l).2 ≠ 0 then (⟨#[]⟩, (textOf (namesOf q mk) kind l).2)
  else (refB ++ catS (digsN mk q.rules.length) ++ colB ++ (textOf (namesOf q mk) kind l).1, 0)
theorem textOf_size {vs : List ByteArray} (h : Short vs) (kind : Int) {l : List Int} (hl : l.length ≤ 1000) : (textOf vs kind l).1.size ≤ 70000 := by
  by_cases h0 : codeOf vs = 0
  · by_cases hk : kind < 0 ∨ 3 < kind
    · rw [textOf_kind h0 hk]; exact Nat.zero_le _
    · cases hlist : listOf vs l with
      | none => rw [textOf_none h0 hk hlist]; exact Nat.zero_le _
      | some zs =>
        rw [textOf_some h0 hk hlist]
        have h1 := catS_size zs fun z hz => h z (listOf_mem hlist z hz)
        have h2 := listOf_length hlist
        have h3 : kind.toNat < 4 := by omega
        have h4 := word_size h3
        show (_ ++ _ : ByteArray).size ≤ _
        rw [ByteArray.size_append]
        omega
  · rw [textOf_code h0]; exact Nat.zero_le _
theorem sufS_size {m i : Nat} {v : ByteArray} (h : v.size ≤ 16) : (sufS m i v).size ≤ 60 := by
  unfold sufS
  split
  · rw [ByteArray.size_append, ByteArray.size_append]
    show _ + (1 + 1) ≤ 60
    omega
  · omega
theorem names_short {q : QueryR} (hF : QFacts q) (mk : Nat) : Short (namesOf q mk) := by
  intro s hs
  unfold namesOf at hs
  rcases List.mem_append.1 hs with h | h
  · have := (nameV_size (hF.names s ((ordL_head hF s).1 h))).2
    omega
  · have hb : ∀ (l : List RuleR) (i : Nat), (∀ r ∈ l, r ∈ q.rules) → s ∈ bodiesN q mk i l → s.size ≤ 60 := by
      intro l
      induction l with
      | nil => intro i _ h; simp [bodiesN] at h
      | cons r l ih =>
        intro i hl h
        rw [bodiesN] at h
        rcases List.mem_append.1 h with h | h
        · unfold bodyN at h
          split at h
          · obtain ⟨v, hv, rfl⟩ := List.mem_map.1 h
            have hv := (List.mem_filter.1 hv).1
            exact sufS_size (nameV_size ((hF.vars r (hl r List.mem_cons_self)).2 v hv)).2
          · cases h
        · exact ih (i + 1) (fun r hr => hl r (List.mem_cons_of_mem _ hr)) h
    exact hb q.rules 0 (fun r hr => hr) h
theorem names_len {q : QueryR} (hF : QFacts q) (mk : Nat) : (namesOf q mk).length ≤ 1000 := by
  unfold namesOf
  have h1 := ordL_len hF
  have h2 := bodiesN_len q mk q.rules 0 fun r hr => (hF.vars r hr).1
  have h3 := hF.rules.2
  rw [List.length_append]
  omega
theorem mask_lt {mk n : Nat} (h : mk >>> n = 0) (hn : n ≤ 3) : mk < 8 := by
  rw [Nat.shiftRight_eq_div_pow] at h
  have h1 : mk < 2 ^ n := by
    rcases Nat.div_eq_zero_iff.1 h with h | h
    · exact absurd h (by have := Nat.two_pow_pos n; omega)
    · exact h
  have h2 : 2 ^ n ≤ 2 ^ 3 := Nat.pow_le_pow_right (by omega) hn
  omega
theorem KP.accL {R : Nat → Prop} {lo : Nat} {H : Heap} {nx : Nat} {v : Value} {c : List Value} (h : KP R lo H nx v c) : AccL 0 H nx v c := by
  rcases h with ⟨rfl, rfl | ⟨b, h2, rfl, h4⟩⟩ | ⟨b, h1, h2, h3, rfl, h5⟩
  · exact .inl (Acc.nil _ _ _ _)
  · exact .inr ⟨rfl, b, Nat.zero_le _, h2, rfl, h4⟩
  · exact .inl ⟨by simp, .inr ⟨b, Nat.zero_le _, h2, rfl, h5⟩⟩
def verdC (mk : Nat) (kind : Int) (P W : Option Addr) (np pc nw wc : Nat) : List Value := [.int .u32 (mk : Int), .int .i64 kind, .slice P np pc, .slice W nw wc]

set_option maxHeartbeats 4000000 in
theorem refusal8 (q : QueryR) (mk : Nat) (kind : Int) (P W : Option Addr) (p w : List Int) (pc wc : Nat) (H : Heap) (nx : Nat) (hQ : QueryOK H nx q) (hz9 : QueryS q) (hm32 : mk < 4294967296)
    (hP : Sl H nx P (i64s p)) (hW : Sl H nx W (i64s w)) (hp : p.length ≤ 1000) (hw : w.length ≤ 1000) :
    Ans Tryz.prog 8 [.agg ⟨queryC q⟩, .agg ⟨verdC mk kind P W p.length pc w.length wc⟩] H nx fun v H' nx' => tval (resV q mk kind (if kind = 0 then p else w)) = v ∧ Ext H nx H' nx' := by
  refine spec8 ?_
  unfold F8
  unfold queryC verdC
  have hl : (if kind = 0 then p else w).length ≤ 1000 := by split <;> assumption
  generalize hX : resV q mk kind (if kind = 0 then p else w) = X
  simp (disch := first | omega | assumption | exact shr_lt (by assumption) | exact ndiff32 (by assumption) | exact below_lt (by omega) | fail) only [wFld_eq, wNew_eq, dBox_agg, oneCells, wLd_none, wLd_3, ldP_cells, getH_same, getH_ne, forceV_eq, forceN_eq, Yld.val, if_true, Nat.zero_add, Nat.add_zero, and_true, true_and, or_false, wLd_5, cellP_lit5]
  generalize hK : hs (hs H nx (some (.cells [.slice q.HA q.head.length q.hc, .int .i64 q.agg, .string q.aggvar, .slice q.RA q.rules.length q.rc, .slice q.OA q.order.length q.oc] 0))) (nx + 1) (some (.cells [.int .u32 (mk : Int), .int .i64 kind, .slice P p.length pc, .slice W w.length wc] 0)) = K
  have kv : getH K (nx + 1) = some (.cells [.int .u32 (mk : Int), .int .i64 kind, .slice P p.length pc, .slice W w.length wc] 0) := by rw [← hK, getH_same]
  have kE : Ext H nx K (nx + 1 + 1) := ⟨by omega, fun i hi => by rw [← hK, getH_ne _ (by omega), getH_ne _ (by omega)]⟩
  have kq : getH K nx = some (.cells [.slice q.HA q.head.length q.hc, .int .i64 q.agg, .string q.aggvar, .slice q.RA q.rules.length q.rc, .slice q.OA q.order.length q.oc] 0) := by rw [← hK, getH_ne _ (by omega), getH_same]
  refine wCall_rule (check17 q K (nx + 1 + 1) (hQ.ext kE) hz9) ?_
  rintro _ H3 nx3 ⟨rfl, hE3⟩
  have hn3 := hE3.le
  have hgq3 := (hE3.get nx (by omega)).trans kq
  have hgv3 := (hE3.get (nx + 1) (by omega)).trans kv
  have hEE3 := kE.trans hE3
  by_cases hq : qcode q = 0
  case neg =>
    have d : decide (qcode q ≠ 0) = true := decide_eq_true hq
    have e : X = (⟨#[]⟩, qcode q) := by rw [← hX, resV, if_pos hq]
    simp (disch := first | omega | assumption | exact shr_lt (by assumption) | exact ndiff32 (by assumption) | exact below_lt (by omega) | fail) only [wBin_neq, wIf_bool, if_true, true_and, d, e, tval]
    exact hEE3
  have d : decide (qcode q ≠ 0) = false := decide_eq_false fun h => h hq
  have hF := qcode_facts hq
  have hr3 := hF.rules.2
  simp (disch := first | omega | assumption | exact shr_lt (by assumption) | exact ndiff32 (by assumption) | exact below_lt (by omega) | fail) only [wBin_neq, wIf_bool, if_false, Bool.false_eq_true, d]
  refine wJoin_rule (fun L H' nx' => L = [.bool (decide (mk = 0 ∨ mk >>> q.rules.length ≠ 0))] ∧ H3 = H' ∧ nx3 = nx') ?_ ?_
  · intro tj hj
    by_cases h0 : mk = 0
    · have d0 : decide (mk = 0) = true := decide_eq_true h0
      have e : decide (mk = 0 ∨ mk >>> q.rules.length ≠ 0) = true := decide_eq_true (.inl h0)
      rw [e] at hj
      simp (disch := first | omega | assumption | exact shr_lt (by assumption) | exact ndiff32 (by assumption) | exact below_lt (by omega) | fail) only [wBin_eql, wBin_neq, wGuard_false, wLen_slice, ldP_cells, cellP_one, Option.elim_some, List.getElem?_cons_zero, List.getElem?_cons_succ, if_true, wBin_shr32, u32_eq_zero, u32_ne_zero, hgv3, hgq3, d0]
      exact hj _ _ _ ⟨rfl, rfl, rfl⟩
    · have d0 : decide (mk = 0) = false := decide_eq_false h0
      have e : decide (mk = 0 ∨ mk >>> q.rules.length ≠ 0) = decide (mk >>> q.rules.length ≠ 0) := by simp [h0]
      rw [e] at hj
      simp (disch := first | omega | assumption | exact shr_lt (by assumption) | exact ndiff32 (by assumption) | exact below_lt (by omega) | fail) only [wBin_eql, wBin_neq, wGuard_false, wLen_slice, ldP_cells, cellP_one, Option.elim_some, List.getElem?_cons_zero, List.getElem?_cons_succ, if_false, Bool.false_eq_true, wBin_shr32, u32_eq_zero, u32_ne_zero, hgv3, hgq3, d0]
      exact hj _ _ _ ⟨by congr, rfl, rfl⟩
  rintro _ _ _ ⟨rfl, rfl, rfl⟩
  by_cases hbad : mk = 0 ∨ mk >>> q.rules.length ≠ 0
  · have db : decide (mk = 0 ∨ mk >>> q.rules.length ≠ 0) = true := decide_eq_true hbad
    have e : X = (⟨#[]⟩, 3) := by rw [← hX, resV, if_neg (by simpa using hq), if_pos hbad]
    rw [db]
    simp (disch := first | omega | assumption | exact shr_lt (by assumption) | exact ndiff32 (by assumption) | exact below_lt (by omega) | fail) only [List.getD_cons_zero, wIf_bool, getH_ne, if_true, true_and, e, tval]
    exact hEE3
  have db : decide (mk = 0 ∨ mk >>> q.rules.length ≠ 0) = false := decide_eq_false hbad
  have hm0 : 0 < mk := by omega
  have hm8 : mk < 8 := mask_lt (by omega) hr3
  rw [db]
  have eX : X = if (textOf (namesOf q mk) kind (if kind = 0 then p else w)).2 ≠ 0 then (⟨#[]⟩, (textOf (namesOf q mk) kind (if kind = 0 then p else w)).2) else (refB ++ catS (digsN mk q.rules.length) ++ colB ++ (textOf (namesOf q mk) kind (if kind = 0 then p else w)).1, 0) := by
    rw [← hX, resV, if_neg (by simpa using hq), if_neg hbad]
  simp (disch := first | omega | assumption | exact shr_lt (by assumption) | exact ndiff32 (by assumption) | exact below_lt (by omega) | fail) only [List.getD_cons_zero, wIf_bool, wLen_slice, ldP_cells, cellP_one, getH_ne, Option.elim_some, List.getElem?_cons_zero, List.getElem?_cons_succ, if_false, Bool.false_eq_true, dBsl_none, hgq3]
  have hE4 : Ext H3 nx3 (hs H3 nx3 (some (.cells [] 0))) (nx3 + 1) := (Ext.refl _ _).new _ (Nat.le_refl _) (by omega)
  refine wLoop_rule (m := q.rules.length) (fun m L H' nx' => ∃ (i : Nat) (u : Value), m + i = q.rules.length ∧ L = [u, .int .i64 (i : Int)] ∧ KP (fun _ => False) nx3 H' nx' u (strs (digsN mk i)) ∧ Ext H3 nx3 H' nx') ?_
    ⟨0, _, rfl, rfl, .inl ⟨rfl, .inr ⟨nx3, by omega, rfl, getH_same _ _ _⟩⟩, hE4⟩
  rintro m ih L H6 nx6 ⟨i, u, hm, rfl, hu, hE6⟩ hih
  have hn6 := hE6.le
  have hgq6 := (hE6.get nx (by omega)).trans hgq3
  have hgv6 := (hE6.get (nx + 1) (by omega)).trans hgv3
  have hEE6 := hEE3.trans hE6
  simp (disch := first | omega | assumption | exact shr_lt (by assumption) | exact ndiff32 (by assumption) | exact below_lt (by omega) | fail) only [List.getD_cons_zero, List.getD_cons_succ, wBin_lss, wIf_bool, wBin_add64]
  by_cases hi : i < q.rules.length
  case pos =>
    have hi' : (i : Int) < (q.rules.length : Int) := by omega
    cases hbit : mk.testBit i with
    | false =>
      simp (disch := first | omega | assumption | exact shr_lt (by assumption) | exact ndiff32 (by assumption) | exact below_lt (by omega) | fail) only [List.getD_cons_zero, wBin_eql, wIf_bool, ldP_cells, cellP_one, Option.elim_some, List.getElem?_cons_zero, decide_true, if_true, if_false, Bool.false_eq_true, true_and, bit_one, wBin_shr32, wBin_and1, hi', hgv6, wJoin_eq, hbit]
      exact hih (m - 1) _ _ _ (by omega) ⟨i + 1, u, by omega, by simp, by rw [digsN_zero hbit]; exact hu, hE6⟩
    | true =>
      simp (disch := first | omega | assumption | exact shr_lt (by assumption) | exact ndiff32 (by assumption) | exact below_lt (by omega) | fail) only [List.getD_cons_zero, wBin_eql, wIf_bool, ldP_cells, cellP_one, Option.elim_some, List.getElem?_cons_zero, decide_true, if_true, true_and, bit_one, wBin_shr32, wBin_and1, hi', hgv6, wJoin_eq, hbit]
      refine wCall_rule (itoa18 i (by omega) H6 nx6) ?_
      rintro _ _ _ ⟨rfl, rfl, rfl⟩
      simp (disch := first | omega | assumption | exact shr_lt (by assumption) | exact ndiff32 (by assumption) | exact below_lt (by omega) | fail) only [dBsl_s1]
      have hX7 : Ext H6 nx6 (hs H6 nx6 (some (.cells [.string (digS i)] 0))) (nx6 + 1) := (Ext.refl _ _).new _ (Nat.le_refl _) (by omega)
      refine wApp_KP (H0 := H3) (lo := nx3) (hu.ext hX7) (src_new (getH_same _ _ _) rfl (by omega)) rfl (by have := digsN_len mk i; rw [strs_length]; omega) (hE6.trans hX7) (by omega) (fun z hz => hz.elim) ?_
      intro v' H' h1 h2 _ _
      try simp (disch := first | omega | assumption | exact shr_lt (by assumption) | exact ndiff32 (by assumption) | exact below_lt (by omega) | fail) only [List.getD_cons_zero, List.getD_cons_succ, wBin_lss, wBin_leq, wBin_gtr, wBin_geq, wBin_eql, wBin_neq, wIf_bool, wGuard_true, wGuard_false, wPick_true, wPick_false, wUn_not, wFld_eq, wExt_eq, wPart_one, wPart_agg, wLen_slice, wLen_string, wNew_eq, wNm_eq, dBox_agg, dBox_int, dBox_slice, dBox_string, dBox_bool, dBox_map, dBox_ptr, oneCells, wLd_none, wLd_2, wLd_3, wLd_32, ldP_cells, ldP_rom, cellP_one, getH_same, getH_ne, forceV_eq, forceN_eq, hsK_eq, Option.elim_some, List.getElem?_cons_zero, List.getElem?_cons_succ, Yld.val, decide_true, decide_false, if_true, if_false, Bool.false_eq_true, Nat.zero_add, Nat.add_zero, and_true, true_and, or_false, Bool.not_true, Bool.not_false, and_self, wBin_add64, wBin_sub64, wIdx_slice, wIdx_array, wNilc_eq, Int.toNat_natCast, Nat.mul_one, Nat.zero_mul, wSt_agg, wSt_int, wSt_bool, wSt_string, wSt_slice, wSt_ptr, wSt_map, wSt_func, stP_cells, bit_one, bit_zero, bit_one', bit_zero', wBin_shr32, wBin_and1, wBin_rem2, wBin_andNot32, wBin_or32, wBin_and32, wBin_shl32, u32_eq_zero, u32_ne_zero, List.length_cons, List.length_nil, Nat.le_refl, Nat.reduceAdd, Nat.reduceMul, Nat.reduceLeDiff, Int.toNat_zero, Int.toNat_one]
      exact hih (m - 1) _ _ _ (by omega) ⟨i + 1, v', by omega, by simp, by rw [digsN_one hbit, ← strs_snoc]; exact h1, h2⟩
  have hi' : ¬ (i : Int) < (q.rules.length : Int) := by omega
  have ei : i = q.rules.length := by omega
  subst ei
  simp (disch := first | omega | assumption | exact shr_lt (by assumption) | exact ndiff32 (by assumption) | exact below_lt (by omega) | fail) only [wBin_eql, wIf_bool, ldP_cells, cellP_one, Option.elim_some, List.getElem?_cons_zero, decide_false, if_false, Bool.false_eq_true, and_true, true_and, bit_one, wBin_shr32, wBin_and1, hi', hgq6, hgv6, cellP_lit5]
  have hE11 : Ext H6 nx6 H6 (nx6 + 12) := ⟨by omega, fun _ _ => rfl⟩
  refine wCall_rule (names19 q mk hm0 hm8 hq H6 (nx6 + 12) (hQ.ext (hEE6.trans hE11))) ?_
  rintro _ H12 nx12 ⟨⟨NA, cap, rfl, hNS, hNH, hNc⟩, hE12⟩
  have hE612 := hE11.trans hE12
  have hgv12 := (hE612.get (nx + 1) (by omega)).trans hgv6
  have hEE12 := hEE6.trans hE612
  have hns := names_short hF mk
  simp (disch := first | omega | assumption | exact shr_lt (by assumption) | exact ndiff32 (by assumption) | exact below_lt (by omega) | fail) only [ldP_cells, true_and, and_self, hgv12, cellP_tail3]
  refine wCall_rule (verdict8 NA P W (namesOf q mk) kind p w cap pc wc H12 nx12 hNS hNH hNc hns (names_len hF mk) (hP.ext hEE12) (hW.ext hEE12) hp hw) ?_
  rintro _ H13 nx13 ⟨rfl, hE13⟩
  have hEE13 := hEE12.trans hE13
  have hts := textOf_size hns kind hl
  generalize textOf (namesOf q mk) kind (if kind = 0 then p else w) = T at eX hts ⊢
  obtain ⟨t, c⟩ := T
  by_cases hc : c = 0
  case neg =>
    have dc : decide (c ≠ 0) = true := decide_eq_true hc
    rw [if_pos hc] at eX
    simp (disch := first | omega | assumption | exact shr_lt (by assumption) | exact ndiff32 (by assumption) | exact below_lt (by omega) | fail) only [wBin_neq, wIf_bool, wExt_eq, Option.elim_some, List.getElem?_cons_zero, List.getElem?_cons_succ, if_true, true_and, tval, dc, eX]
    exact hEE13
  have dc : decide (c ≠ 0) = false := decide_eq_false fun h => h hc
  rw [if_neg (by simpa using hc)] at eX
  simp (disch := first | omega | assumption | exact shr_lt (by assumption) | exact ndiff32 (by assumption) | exact below_lt (by omega) | fail) only [wBin_neq, wIf_bool, wExt_eq, Option.elim_some, List.getElem?_cons_zero, List.getElem?_cons_succ, if_false, Bool.false_eq_true, tval, dc]
  refine wCall_rule (joined17 refB 0 u (digsN mk q.rules.length) H13 nx13 ((hu.ext hE612).ext hE13).accL (digsN_size mk _) (by decide) (by have := digsN_len mk q.rules.length; omega)) ?_
  rintro _ H14 nx14 ⟨rfl, hE14⟩
  have hcs := catD_size mk q.rules.length hr3
  have hrs : (refB ++ catS (digsN mk q.rules.length)).size ≤ 190 := by rw [ByteArray.size_append]; show 7 + _ ≤ _; omega
  rw [wBin_stradd _ _ (by show _ + 2 ≤ _; omega), wBin_stradd _ _ (by rw [ByteArray.size_append]; show _ + 2 + _ ≤ _; simp only at hts; omega)]
  simp (disch := first | omega | assumption | exact shr_lt (by assumption) | exact ndiff32 (by assumption) | exact below_lt (by omega) | fail) only [eX]
  exact ⟨rfl, hEE13.trans hE14⟩
end Go.Proofs.YthbdeaeghipliaaGreatDoor

set_option linter.unusedSimpArgs false
set_option linter.unusedVariables false
set_option linter.unusedSectionVars false
namespace Go.Proofs.YthbdeaeghipliaaGreatDoor
open Go.Clo

theorem ref_snoc {mk i : Nat} (h : mk.testBit i = true) : refB ++ catS (digsN mk i) ++ (⟨#[32]⟩ ++ digS i) = refB ++ catS (digsN mk (i + 1)) := by
  rw [digsN_one h, catS_snoc, ← ByteArray.append_assoc, ← ByteArray.append_assoc, ← ByteArray.append_assoc]
  rfl

set_option maxHeartbeats 4000000 in
theorem refused9 (q : QueryR) (mk : Nat) (kind : Int) (P W : Option Addr) (p w : List Int) (pc wc : Nat) (H : Heap) (nx : Nat) (hQ : QueryOK H nx q) (hz9 : QueryS q) (hm32 : mk < 4294967296)
    (hP : Sl H nx P (i64s p)) (hW : Sl H nx W (i64s w)) (hp : p.length ≤ 1000) (hw : w.length ≤ 1000) :
    Ans Tryz.prog 9 [.agg ⟨queryC q⟩, .agg ⟨verdC mk kind P W p.length pc w.length wc⟩] H nx fun v H' nx' => tval (resV q mk kind (if kind = 0 then p else w)) = v ∧ Ext H nx H' nx' := by
  refine spec9 ?_
  unfold F9
  unfold queryC verdC
  have hl : (if kind = 0 then p else w).length ≤ 1000 := by split <;> assumption
  generalize hX : resV q mk kind (if kind = 0 then p else w) = X
  simp (disch := first | omega | assumption | exact shr_lt (by assumption) | exact ndiff32 (by assumption) | exact below_lt (by omega) | fail) only [wFld_eq, wNew_eq, dBox_agg, oneCells, wLd_none, wLd_3, ldP_cells, getH_same, getH_ne, forceV_eq, forceN_eq, Yld.val, if_true, Nat.zero_add, Nat.add_zero, and_true, true_and, or_false, wLd_5, cellP_lit5]
  generalize hK : hs (hs H nx (some (.cells [.slice q.HA q.head.length q.hc, .int .i64 q.agg, .string q.aggvar, .slice q.RA q.rules.length q.rc, .slice q.OA q.order.length q.oc] 0))) (nx + 1) (some (.cells [.int .u32 (mk : Int), .int .i64 kind, .slice P p.length pc, .slice W w.length wc] 0)) = K
  have kv : getH K (nx + 1) = some (.cells [.int .u32 (mk : Int), .int .i64 kind, .slice P p.length pc, .slice W w.length wc] 0) := by rw [← hK, getH_same]
  have kE : Ext H nx K (nx + 1 + 1) := ⟨by omega, fun i hi => by rw [← hK, getH_ne _ (by omega), getH_ne _ (by omega)]⟩
  have kq : getH K nx = some (.cells [.slice q.HA q.head.length q.hc, .int .i64 q.agg, .string q.aggvar, .slice q.RA q.rules.length q.rc, .slice q.OA q.order.length q.oc] 0) := by rw [← hK, getH_ne _ (by omega), getH_same]
  refine wCall_rule (check17 q K (nx + 1 + 1) (hQ.ext kE) hz9) ?_
  rintro _ H3 nx3 ⟨rfl, hE3⟩
  have hn3 := hE3.le
  have hgq3 := (hE3.get nx (by omega)).trans kq
  have hgv3 := (hE3.get (nx + 1) (by omega)).trans kv
  have hEE3 := kE.trans hE3
  by_cases hq : qcode q = 0
  case neg =>
    have d : decide (qcode q ≠ 0) = true := decide_eq_true hq
    have e : X = (⟨#[]⟩, qcode q) := by rw [← hX, resV, if_pos hq]
    simp (disch := first | omega | assumption | exact shr_lt (by assumption) | exact ndiff32 (by assumption) | exact below_lt (by omega) | fail) only [wBin_neq, wIf_bool, if_true, true_and, d, e, tval]
    exact hEE3
  have d : decide (qcode q ≠ 0) = false := decide_eq_false fun h => h hq
  have hF := qcode_facts hq
  have hr3 := hF.rules.2
  simp (disch := first | omega | assumption | exact shr_lt (by assumption) | exact ndiff32 (by assumption) | exact below_lt (by omega) | fail) only [wBin_neq, wIf_bool, if_false, Bool.false_eq_true, d]
  refine wJoin_rule (fun L H' nx' => L = [.bool (decide (mk = 0 ∨ mk >>> q.rules.length ≠ 0))] ∧ H3 = H' ∧ nx3 = nx') ?_ ?_
  · intro tj hj
    by_cases h0 : mk = 0
    · have d0 : decide (mk = 0) = true := decide_eq_true h0
      have e : decide (mk = 0 ∨ mk >>> q.rules.length ≠ 0) = true := decide_eq_true (.inl h0)
      rw [e] at hj
      simp (disch := first | omega | assumption | exact shr_lt (by assumption) | exact ndiff32 (by assumption) | exact below_lt (by omega) | fail) only [wBin_eql, wBin_neq, wGuard_false, wLen_slice, ldP_cells, cellP_one, Option.elim_some, List.getElem?_cons_zero, List.getElem?_cons_succ, if_true, wBin_shr32, u32_eq_zero, u32_ne_zero, hgv3, hgq3, d0]
      exact hj _ _ _ ⟨rfl, rfl, rfl⟩
    · have d0 : decide (mk = 0) = false := decide_eq_false h0
      have e : decide (mk = 0 ∨ mk >>> q.rules.length ≠ 0) = decide (mk >>> q.rules.length ≠ 0) := by simp [h0]
      rw [e] at hj
      simp (disch := first | omega | assumption | exact shr_lt (by assumption) | exact ndiff32 (by assumption) | exact below_lt (by omega) | fail) only [wBin_eql, wBin_neq, wGuard_false, wLen_slice, ldP_cells, cellP_one, Option.elim_some, List.getElem?_cons_zero, List.getElem?_cons_succ, if_false, Bool.false_eq_true, wBin_shr32, u32_eq_zero, u32_ne_zero, hgv3, hgq3, d0]
      exact hj _ _ _ ⟨by congr, rfl, rfl⟩
  rintro _ _ _ ⟨rfl, rfl, rfl⟩
  by_cases hbad : mk = 0 ∨ mk >>> q.rules.length ≠ 0
  · have db : decide (mk = 0 ∨ mk >>> q.rules.length ≠ 0) = true := decide_eq_true hbad
    have e : X = (⟨#[]⟩, 3) := by rw [← hX, resV, if_neg (by simpa using hq), if_pos hbad]
    rw [db]
    simp (disch := first | omega | assumption | exact shr_lt (by assumption) | exact ndiff32 (by assumption) | exact below_lt (by omega) | fail) only [List.getD_cons_zero, wIf_bool, if_true, true_and, e, tval]
    exact hEE3
  have db : decide (mk = 0 ∨ mk >>> q.rules.length ≠ 0) = false := decide_eq_false hbad
  have hm0 : 0 < mk := by omega
  have hm8 : mk < 8 := mask_lt (by omega) hr3
  rw [db]
  have eX : X = if (textOf (namesOf q mk) kind (if kind = 0 then p else w)).2 ≠ 0 then (⟨#[]⟩, (textOf (namesOf q mk) kind (if kind = 0 then p else w)).2) else (refB ++ catS (digsN mk q.rules.length) ++ colB ++ (textOf (namesOf q mk) kind (if kind = 0 then p else w)).1, 0) := by
    rw [← hX, resV, if_neg (by simpa using hq), if_neg hbad]
  simp (disch := first | omega | assumption | exact shr_lt (by assumption) | exact ndiff32 (by assumption) | exact below_lt (by omega) | fail) only [List.getD_cons_zero, wIf_bool, ldP_cells, cellP_one, Option.elim_some, List.getElem?_cons_zero, List.getElem?_cons_succ, if_false, Bool.false_eq_true, and_true, true_and, hgq3, hgv3, cellP_lit5]
  have hE11 : Ext H3 nx3 H3 (nx3 + 16) := ⟨by omega, fun _ _ => rfl⟩
  refine wCall_rule (names22 q mk hm0 hm8 hq H3 (nx3 + 16) (hQ.ext (hEE3.trans hE11))) ?_
  rintro _ H12 nx12 ⟨⟨NA, cap, rfl, hNS, hNH, hNc⟩, hE12⟩
  have hE312 := hE11.trans hE12
  have hgv12 := (hE312.get (nx + 1) (by omega)).trans hgv3
  have hEE12 := hEE3.trans hE312
  have hns := names_short hF mk
  simp (disch := first | omega | assumption | exact shr_lt (by assumption) | exact ndiff32 (by assumption) | exact below_lt (by omega) | fail) only [ldP_cells, cellP_one, Option.elim_some, List.getElem?_cons_zero, List.getElem?_cons_succ, and_true, true_and, and_self, hgv12, cellP_tail3]
  refine wCall_rule (printed10 kind P W p.length pc w.length wc H12 nx12) ?_
  rintro _ H13 nx13 ⟨rfl, hE13⟩
  have hEE13 := hEE12.trans hE13
  have hgv13 := (hE13.get (nx + 1) (by have := hE312.le; omega)).trans hgv12
  obtain ⟨B, bc, eB, hB⟩ : ∃ B bc, (if kind = 0 then Value.slice P p.length pc else Value.slice W w.length wc) = .slice B (if kind = 0 then p else w).length bc ∧ Sl H13 nx13 B (i64s (if kind = 0 then p else w)) := by
    by_cases hk : kind = 0
    · exact ⟨P, pc, by rw [if_pos hk, if_pos hk], by rw [if_pos hk]; exact hP.ext hEE13⟩
    · exact ⟨W, wc, by rw [if_neg hk, if_neg hk], by rw [if_neg hk]; exact hW.ext hEE13⟩
  rw [eB]
  refine wCall_rule (text9 NA B (namesOf q mk) kind (if kind = 0 then p else w) cap bc H13 nx13 (hNS.ext hE13) hB hns (names_len hF mk) hl) ?_
  rintro _ H14 nx14 ⟨rfl, hE14⟩
  have hEE14 := hEE13.trans hE14
  have hn13 := hEE13.le
  have hgv14 := (hE14.get (nx + 1) (by have := hE312.le; have := hE13.le; omega)).trans hgv13
  have hgq14 := ((hE14.get nx (by have := hE312.le; have := hE13.le; omega)).trans (hE13.get nx (by have := hE312.le; omega))).trans ((hE312.get nx (by omega)).trans hgq3)
  have hts := textOf_size hns kind hl
  generalize textOf (namesOf q mk) kind (if kind = 0 then p else w) = T at eX hts ⊢
  obtain ⟨t, c⟩ := T
  by_cases hc : c = 0
  case neg =>
    have dc : decide (c ≠ 0) = true := decide_eq_true hc
    rw [if_pos hc] at eX
    simp (disch := first | omega | assumption | exact shr_lt (by assumption) | exact ndiff32 (by assumption) | exact below_lt (by omega) | fail) only [wBin_neq, wIf_bool, wExt_eq, ldP_cells, cellP_one, Option.elim_some, List.getElem?_cons_zero, List.getElem?_cons_succ, if_true, true_and, tval, hgv13, dc, eX]
    exact hEE14
  have dc : decide (c ≠ 0) = false := decide_eq_false fun h => h hc
  rw [if_neg (by simpa using hc)] at eX
  simp (disch := first | omega | assumption | exact shr_lt (by assumption) | exact ndiff32 (by assumption) | exact below_lt (by omega) | fail) only [wBin_neq, wIf_bool, wExt_eq, wLen_slice, ldP_cells, cellP_one, Option.elim_some, List.getElem?_cons_zero, List.getElem?_cons_succ, if_false, Bool.false_eq_true, true_and, tval, hgv13, hgq14, dc]
  refine wLoop_rule (m := q.rules.length) (fun m L H' nx' => ∃ i : Nat, m + i = q.rules.length ∧ L = [.string (refB ++ catS (digsN mk i)), .int .i64 (i : Int)] ∧ Ext H14 nx14 H' nx') ?_
    ⟨0, rfl, rfl, Ext.refl _ _⟩
  rintro m ih L H6 nx6 ⟨i, hm, rfl, hE6⟩ hih
  have hgv6 := (hE6.get (nx + 1) (by have := hE312.le; have := hE13.le; have := hE14.le; omega)).trans hgv14
  have hcs := catD_size mk i (by omega)
  have hrs : (refB ++ catS (digsN mk i)).size ≤ 190 := by rw [ByteArray.size_append]; show 7 + _ ≤ _; omega
  simp (disch := first | omega | assumption | exact shr_lt (by assumption) | exact ndiff32 (by assumption) | exact below_lt (by omega) | fail) only [List.getD_cons_zero, List.getD_cons_succ, wBin_lss, wIf_bool, wBin_add64]
  by_cases hi : i < q.rules.length
  case pos =>
    have hi' : (i : Int) < (q.rules.length : Int) := by omega
    cases hbit : mk.testBit i with
    | false =>
      simp (disch := first | omega | assumption | exact shr_lt (by assumption) | exact ndiff32 (by assumption) | exact below_lt (by omega) | fail) only [List.getD_cons_zero, wBin_eql, wIf_bool, ldP_cells, cellP_one, Option.elim_some, List.getElem?_cons_zero, decide_true, if_true, if_false, Bool.false_eq_true, bit_one, wBin_shr32, wBin_rem2, hi', hgv6, wJoin_eq, hbit]
      exact hih (m - 1) _ _ _ (by omega) ⟨i + 1, by omega, by rw [digsN_zero hbit]; simp, hE6⟩
    | true =>
      have hX9 : Ext H6 nx6 (hs H6 nx6 (some (.cells [.int .u8 (49 + (i : Int))] 0))) (nx6 + 1) := (Ext.refl _ _).new _ (Nat.le_refl _) (by omega)
      simp (disch := first | omega | assumption | exact shr_lt (by assumption) | exact ndiff32 (by assumption) | exact below_lt (by omega) | fail) only [List.getD_cons_zero, wBin_eql, wIf_bool, ldP_cells, cellP_one, Option.elim_some, List.getElem?_cons_zero, decide_true, if_true, bit_one, wBin_shr32, wBin_rem2, hi', hgv6, wJoin_eq, hbit, conv_m (show i < 3 by omega), dBsl_u8]
      rw [wStr_m (show i < 3 by omega) (getH_same _ _ _)]
      have hd2 : ((⟨#[32]⟩ : ByteArray) ++ digS i).size = 2 := by rw [ByteArray.size_append]; rfl
      rw [wBin_stradd _ _ (by show 1 + 1 ≤ _; omega), wBin_stradd _ _ (by rw [hd2]; omega), ref_snoc hbit]
      try simp (disch := first | omega | assumption | exact shr_lt (by assumption) | exact ndiff32 (by assumption) | exact below_lt (by omega) | fail) only [List.getD_cons_zero, List.getD_cons_succ, wBin_lss, wBin_leq, wBin_gtr, wBin_geq, wBin_eql, wBin_neq, wIf_bool, wGuard_true, wGuard_false, wPick_true, wPick_false, wUn_not, wFld_eq, wExt_eq, wPart_one, wPart_agg, wLen_slice, wLen_string, wNew_eq, wNm_eq, dBox_agg, dBox_int, dBox_slice, dBox_string, dBox_bool, dBox_map, dBox_ptr, oneCells, wLd_none, wLd_2, wLd_3, wLd_32, ldP_cells, ldP_rom, cellP_one, getH_same, getH_ne, forceV_eq, forceN_eq, hsK_eq, Option.elim_some, List.getElem?_cons_zero, List.getElem?_cons_succ, Yld.val, decide_true, decide_false, if_true, if_false, Bool.false_eq_true, Nat.zero_add, Nat.add_zero, and_true, true_and, or_false, Bool.not_true, Bool.not_false, and_self, wBin_add64, wBin_sub64, wIdx_slice, wIdx_array, wNilc_eq, Int.toNat_natCast, Nat.mul_one, Nat.zero_mul, wSt_agg, wSt_int, wSt_bool, wSt_string, wSt_slice, wSt_ptr, wSt_map, wSt_func, stP_cells, bit_one, bit_zero, bit_one', bit_zero', wBin_shr32, wBin_and1, wBin_rem2, wBin_andNot32, wBin_or32, wBin_and32, wBin_shl32, u32_eq_zero, u32_ne_zero, List.length_cons, List.length_nil, Nat.le_refl, Nat.reduceAdd, Nat.reduceMul, Nat.reduceLeDiff, Int.toNat_zero, Int.toNat_one]
      exact hih (m - 1) _ _ _ (by omega) ⟨i + 1, by omega, by simp, hE6.trans hX9⟩
  have hi' : ¬ (i : Int) < (q.rules.length : Int) := by omega
  have ei : i = q.rules.length := by omega
  subst ei
  simp (disch := first | omega | assumption | exact shr_lt (by assumption) | exact ndiff32 (by assumption) | exact below_lt (by omega) | fail) only [decide_false, if_false, Bool.false_eq_true, hi']
  rw [wBin_stradd _ _ (by show _ + 2 ≤ _; omega), wBin_stradd _ _ (by rw [ByteArray.size_append]; show _ + 2 + _ ≤ _; simp only at hts; omega)]
  simp (disch := first | omega | assumption | exact shr_lt (by assumption) | exact ndiff32 (by assumption) | exact below_lt (by omega) | fail) only [eX]
  exact ⟨rfl, hEE14.trans hE6⟩
end Go.Proofs.YthbdeaeghipliaaGreatDoor

set_option linter.unusedSimpArgs false
set_option linter.unusedVariables false
set_option linter.unusedSectionVars false
namespace Go.Proofs.YthbdeaeghipliaaGreatDoor
open Go.Clo
set_option maxRecDepth 100000
noncomputable def F5 (a0 : Value) (H : Heap) (nx : Nat) (k : EP) : Prop :=
  dBox a0 fun tc_1 => wNew (.cells tc_1 0) .ptr H nx fun t1_2 H1 nx1 =>
  wFld t1_2 0 fun t17_3 =>
  wLd t17_3 none H1 fun t18_4 =>
  wLen t18_4 0 H1 fun t19_5 =>
  wFld t1_2 4 fun t20_6 =>
  wLd t20_6 none H1 fun t21_7 =>
  wLen t21_7 0 H1 fun t22_8 =>
  wBin .add t19_5 t22_8 fun t23_9 =>
  wFld t1_2 2 fun t24_10 =>
  wLd t24_10 none H1 fun t25_11 =>
  wLen t25_11 1 H1 fun t26_12 =>
  wBin .gtr t26_12 (.int .i64 100) fun t27_13 =>
  wFld t1_2 0 fun t28_14 =>
  wLd t28_14 none H1 fun t29_15 =>
  wLen t29_15 0 H1 fun t30_16 =>
  wLoop (fun tih_17 tL_18 H2 nx2 =>
    wBin .lss (tL_18.getD 1 undef) t30_16 fun t32_19 =>
    wIf t32_19 (
      wJoin (fun tj_20 =>
        wIdx t29_15 (tL_18.getD 1 undef) none 1 fun t33_22 =>
        wLd t33_22 none H2 fun t34_23 =>
        wGuard false (tL_18.getD 0 undef) (
          wLen t34_23 1 H2 fun t38_24 =>
          wBin .gtr t38_24 (.int .i64 100) fun t39_25 =>
          tj_20 [t39_25] H2 nx2) (
          tj_20 [(.bool true)] H2 nx2)) (fun tL_21 H3 nx3 =>
        wBin .add (tL_18.getD 1 undef) (.int .i64 1) fun t41_26 =>
        tih_17 [(tL_21.getD 0 undef), t41_26] H3 nx3)) (
      wFld t1_2 4 fun t42_27 =>
      wLd t42_27 none H2 fun t43_28 =>
      wLen t43_28 0 H2 fun t44_29 =>
      wLoop (fun tih_30 tL_31 H4 nx4 =>
        wBin .lss (tL_31.getD 1 undef) t44_29 fun t46_32 =>
        wIf t46_32 (
          wJoin (fun tj_33 =>
            wIdx t43_28 (tL_31.getD 1 undef) none 2 fun t47_35 =>
            wLd t47_35 (some 2) H4 fun t48_36 =>
            wNew (.cells [.string ⟨#[]⟩, .bool false] 0) .ptr H4 nx4 fun t8_37 H6 nx6 =>
            wSt t8_37 t48_36 2 H6 fun H7 =>
            wGuard false (tL_31.getD 0 undef) (
              wFld t8_37 0 fun t51_38 =>
              wLd t51_38 none H7 fun t52_39 =>
              wLen t52_39 1 H7 fun t53_40 =>
              wBin .gtr t53_40 (.int .i64 100) fun t54_41 =>
              tj_33 [t54_41] H7 nx6) (
              tj_33 [(.bool true)] H7 nx6)) (fun tL_34 H5 nx5 =>
            wBin .add (tL_31.getD 1 undef) (.int .i64 1) fun t56_42 =>
            tih_30 [(tL_34.getD 0 undef), t56_42] H5 nx5)) (
          wFld t1_2 3 fun t57_43 =>
          wLd t57_43 none H4 fun t58_44 =>
          wLen t58_44 0 H4 fun t59_45 =>
          wLoop (fun tih_46 tL_47 H8 nx8 =>
            wBin .lss (tL_47.getD 2 undef) t59_45 fun t61_48 =>
            wIf t61_48 (
              wIdx t58_44 (tL_47.getD 2 undef) none 2 fun t62_49 =>
              wLd t62_49 (some 2) H8 fun t63_50 =>
              wNew (.cells [.slice none 0 0, .slice none 0 0] 0) .ptr H8 nx8 fun t10_51 H9 nx9 =>
              wSt t10_51 t63_50 2 H9 fun H10 =>
              wFld t10_51 1 fun t65_52 =>
              wLd t65_52 none H10 fun t66_53 =>
              wLen t66_53 0 H10 fun t67_54 =>
              wBin .add (tL_47.getD 0 undef) t67_54 fun t68_55 =>
              wFld t10_51 1 fun t69_56 =>
              wLd t69_56 none H10 fun t70_57 =>
              wLen t70_57 0 H10 fun t71_58 =>
              wLoop (fun tih_59 tL_60 H11 nx11 =>
                wBin .lss (tL_60.getD 1 undef) t71_58 fun t73_61 =>
                wIf t73_61 (
                  wJoin (fun tj_62 =>
                    wIdx t70_57 (tL_60.getD 1 undef) none 5 fun t74_64 =>
                    wLd t74_64 (some 5) H11 fun t75_65 =>
                    wNew (.cells [.string ⟨#[]⟩, .int .i64 0, .int .i64 0, .int .i64 0, .string ⟨#[]⟩] 0) .ptr H11 nx11 fun t12_66 H13 nx13 =>
                    wSt t12_66 t75_65 5 H13 fun H14 =>
                    wGuard false (tL_60.getD 0 undef) (
                      wFld t12_66 0 fun t78_67 =>
                      wLd t78_67 none H14 fun t79_68 =>
                      wLen t79_68 1 H14 fun t80_69 =>
                      wBin .gtr t80_69 (.int .i64 100) fun t81_70 =>
                      wGuard false t81_70 (
                        wFld t12_66 2 fun t84_71 =>
                        wFld t84_71 2 fun t85_72 =>
                        wLd t85_72 none H14 fun t86_73 =>
                        wLen t86_73 1 H14 fun t87_74 =>
                        wBin .gtr t87_74 (.int .i64 100) fun t88_75 =>
                        tj_62 [t88_75] H14 nx13) (
                        tj_62 [(.bool true)] H14 nx13)) (
                        tj_62 [(.bool true)] H14 nx13)) (fun tL_63 H12 nx12 =>
                    wBin .add (tL_60.getD 1 undef) (.int .i64 1) fun t90_76 =>
                    tih_59 [(tL_63.getD 0 undef), t90_76] H12 nx12)) (
                  wFld t10_51 0 fun t91_77 =>
                  wLd t91_77 none H11 fun t92_78 =>
                  wLen t92_78 0 H11 fun t93_79 =>
                  wLoop (fun tih_80 tL_81 H15 nx15 =>
                    wBin .lss (tL_81.getD 2 undef) t93_79 fun t95_82 =>
                    wIf t95_82 (
                      wIdx t92_78 (tL_81.getD 2 undef) none 3 fun t96_83 =>
                      wLd t96_83 (some 3) H15 fun t97_84 =>
                      wNew (.cells [.bool false, .string ⟨#[]⟩, .slice none 0 0] 0) .ptr H15 nx15 fun t14_85 H16 nx16 =>
                      wSt t14_85 t97_84 3 H16 fun H17 =>
                      wFld t14_85 2 fun t99_86 =>
                      wLd t99_86 none H17 fun t100_87 =>
                      wLen t100_87 0 H17 fun t101_88 =>
                      wBin .add (.int .i64 1) t101_88 fun t102_89 =>
                      wBin .add (tL_81.getD 0 undef) t102_89 fun t103_90 =>
                      wJoin (fun tj_91 =>
                        wGuard false (tL_81.getD 1 undef) (
                          wFld t14_85 1 fun t106_93 =>
                          wLd t106_93 none H17 fun t107_94 =>
                          wLen t107_94 1 H17 fun t108_95 =>
                          wBin .gtr t108_95 (.int .i64 100) fun t109_96 =>
                          tj_91 [t109_96] H17 nx16) (
                          tj_91 [(.bool true)] H17 nx16)) (fun tL_92 H18 nx18 =>
                        wFld t14_85 2 fun t111_97 =>
                        wLd t111_97 none H18 fun t112_98 =>
                        wLen t112_98 0 H18 fun t113_99 =>
                        wLoop (fun tih_100 tL_101 H19 nx19 =>
                          wBin .lss (tL_101.getD 1 undef) t113_99 fun t115_102 =>
                          wIf t115_102 (
                            wJoin (fun tj_103 =>
                              wIdx t112_98 (tL_101.getD 1 undef) none 4 fun t116_105 =>
                              wLd t116_105 (some 4) H19 fun t117_106 =>
                              wNew (.cells [.string ⟨#[]⟩, .int .i64 0, .int .i64 0, .string ⟨#[]⟩] 0) .ptr H19 nx19 fun t16_107 H21 nx21 =>
                              wSt t16_107 t117_106 4 H21 fun H22 =>
                              wGuard false (tL_101.getD 0 undef) (
                                wFld t16_107 0 fun t120_108 =>
                                wLd t120_108 none H22 fun t121_109 =>
                                wLen t121_109 1 H22 fun t122_110 =>
                                wBin .gtr t122_110 (.int .i64 100) fun t123_111 =>
                                wGuard false t123_111 (
                                  wFld t16_107 1 fun t126_112 =>
                                  wFld t126_112 2 fun t127_113 =>
                                  wLd t127_113 none H22 fun t128_114 =>
                                  wLen t128_114 1 H22 fun t129_115 =>
                                  wBin .gtr t129_115 (.int .i64 100) fun t130_116 =>
                                  tj_103 [t130_116] H22 nx21) (
                                  tj_103 [(.bool true)] H22 nx21)) (
                                  tj_103 [(.bool true)] H22 nx21)) (fun tL_104 H20 nx20 =>
                              wBin .add (tL_101.getD 1 undef) (.int .i64 1) fun t132_117 =>
                              tih_100 [(tL_104.getD 0 undef), t132_117] H20 nx20)) (
                            wBin .add (tL_81.getD 2 undef) (.int .i64 1) fun t133_118 =>
                            tih_80 [t103_90, (tL_101.getD 0 undef), t133_118] H19 nx19)) [(tL_92.getD 0 undef), (.int .i64 0)] H18 nx18)) (
                      wBin .add (tL_47.getD 2 undef) (.int .i64 1) fun t134_119 =>
                      tih_46 [(tL_81.getD 0 undef), (tL_81.getD 1 undef), t134_119] H15 nx15)) [t68_55, (tL_60.getD 0 undef), (.int .i64 0)] H11 nx11)) [(tL_47.getD 1 undef), (.int .i64 0)] H10 nx9) (
              wGuard false (tL_47.getD 1 undef) (
                wBin .gtr (tL_47.getD 0 undef) (.int .i64 200) fun t138_120 =>
                wGuard false t138_120 (
                  wFld t1_2 3 fun t141_121 =>
                  wLd t141_121 none H8 fun t142_122 =>
                  wLen t142_122 0 H8 fun t143_123 =>
                  wBin .gtr t143_123 (.int .i64 5) fun t144_124 =>
                  forceV t144_124 fun tv_125 => k tv_125 H8 nx8) (
                  forceV (.bool true) fun tv_126 => k tv_126 H8 nx8)) (
                  forceV (.bool true) fun tv_127 => k tv_127 H8 nx8))) [t23_9, (tL_31.getD 0 undef), (.int .i64 0)] H4 nx4)) [(tL_18.getD 0 undef), (.int .i64 0)] H2 nx2)) [t27_13, (.int .i64 0)] H1 nx1
end Go.Proofs.YthbdeaeghipliaaGreatDoor

set_option linter.unusedSimpArgs false
set_option linter.unusedVariables false
set_option linter.unusedSectionVars false
namespace Go.Proofs.YthbdeaeghipliaaGreatDoor
open Go.Clo

/-- No list of the query is of unheard-of length. -/
structure QueryL (q : QueryR) : Prop where
  head : q.head.length < 2305843009213693952
  order : q.order.length < 2305843009213693952
  rules : q.rules.length < 2305843009213693952
  atoms : ∀ r ∈ q.rules, r.atoms.length < 2305843009213693952
  conds : ∀ r ∈ q.rules, r.conds.length < 2305843009213693952
  terms : ∀ r ∈ q.rules, ∀ a ∈ r.atoms, a.terms.length < 2305843009213693952
theorem take_all {α : Type} {p : α → Prop} {l : List α} {i : Nat} {a : α} (h : l[i]? = some a) (h1 : ∀ x ∈ l.take i, p x) (h2 : p a) : ∀ x ∈ l.take (i + 1), p x := by
  intro x hx
  rw [take_snocB h, List.mem_append, List.mem_singleton] at hx
  rcases hx with hx | rfl
  · exact h1 x hx
  · exact h2

set_option maxHeartbeats 4000000 in
theorem greatF (q : QueryR) (H : Heap) (nx : Nat) (hQ : QueryOK H nx q) (hL : QueryL q) :
    F5 (.agg ⟨queryC q⟩) H nx fun v H' nx' => (∃ c : Bool, v = .bool c ∧ (c = false → QueryS q)) ∧ Ext H nx H' nx' := by
  unfold F5
  unfold queryC
  have l1 := hL.head
  have l2 := hL.order
  have l3 := hL.rules
  have hE1 : Ext H nx (hs H nx (some (.cells [.slice q.HA q.head.length q.hc, .int .i64 q.agg, .string q.aggvar, .slice q.RA q.rules.length q.rc, .slice q.OA q.order.length q.oc] 0))) (nx + 1) := (Ext.refl H nx).new _ (Nat.le_refl _) (by omega)
  have hg1 : getH (hs H nx (some (.cells [.slice q.HA q.head.length q.hc, .int .i64 q.agg, .string q.aggvar, .slice q.RA q.rules.length q.rc, .slice q.OA q.order.length q.oc] 0))) nx = some (.cells [.slice q.HA q.head.length q.hc, .int .i64 q.agg, .string q.aggvar, .slice q.RA q.rules.length q.rc, .slice q.OA q.order.length q.oc] 0) := getH_same _ _ _
  simp (config := { maxSteps := 2000000 }) (disch := first | omega | assumption | exact shr_lt (by assumption) | exact ndiff32 (by assumption) | exact below_lt (by omega) | fail) only [wBin_gtr, wFld_eq, wLen_slice, wLen_string, wNew_eq, dBox_agg, oneCells, wLd_none, ldP_cells, cellP_one, getH_same, forceV_eq, Option.elim_some, List.getElem?_cons_zero, List.getElem?_cons_succ, Yld.val, if_true, Nat.zero_add, Nat.add_zero, wBin_add64, Nat.reduceAdd]
  generalize hs H nx (some (.cells [.slice q.HA q.head.length q.hc, .int .i64 q.agg, .string q.aggvar, .slice q.RA q.rules.length q.rc, .slice q.OA q.order.length q.oc] 0)) = H1 at hE1 hg1 ⊢
  generalize hn0 : (q.head.length : Int) + (q.order.length : Int) = n0
  -- the head
  refine wLoop_rule (m := q.head.length) (fun m L H' nx' => ∃ (i : Nat) (c : Bool), m + i = q.head.length ∧ L = [.bool c, .int .i64 (i : Int)] ∧ (c = false → q.aggvar.size ≤ 100 ∧ ∀ s ∈ q.head.take i, s.size ≤ 100) ∧ H1 = H' ∧ nx + 1 = nx') ?_
    ⟨0, _, rfl, rfl, fun h => ⟨by have := of_decide_eq_false h; omega, by simp⟩, rfl, rfl⟩
  rintro m1 ih1 L _ _ ⟨i, c, hm1, rfl, hc, rfl, rfl⟩ hih1
  simp (config := { maxSteps := 2000000 }) (disch := first | omega | assumption | exact shr_lt (by assumption) | exact ndiff32 (by assumption) | exact below_lt (by omega) | fail) only [List.getD_cons_zero, List.getD_cons_succ, wBin_lss, wIf_bool, wGuard_false, wBin_add64]
  by_cases hi : i < q.head.length
  case pos =>
    have hi' : (i : Int) < (q.head.length : Int) := by omega
    obtain ⟨s, hs⟩ : ∃ s, q.head[i]? = some s := ⟨_, List.getElem?_eq_getElem hi⟩
    obtain ⟨b, o, row, hHA, hb, hrow, hget⟩ := (hQ.head.ext hE1).open (i := i) (by rw [strs_length]; omega)
    have g0 := hget _ _ (strs_get hs)
    rw [hHA]
    cases c with
    | true =>
      simp (config := { maxSteps := 2000000 }) (disch := first | omega | assumption | exact shr_lt (by assumption) | exact ndiff32 (by assumption) | exact below_lt (by omega) | fail) only [List.getD_cons_zero, wLd_none, cellP_one, Option.elim_some, decide_true, if_true, wIdx_slice, Int.toNat_natCast, Nat.mul_one, wJoin_eq, hi', ldP_row hrow, g0]
      exact hih1 (m1 - 1) _ _ _ (by omega) ⟨i + 1, true, by omega, by simp, (fun h => by cases h), rfl, rfl⟩
    | false =>
      simp (config := { maxSteps := 2000000 }) (disch := first | omega | assumption | exact shr_lt (by assumption) | exact ndiff32 (by assumption) | exact below_lt (by omega) | fail) only [List.getD_cons_zero, wBin_gtr, wLen_string, wLd_none, cellP_one, Option.elim_some, decide_true, if_true, if_false, Bool.false_eq_true, wIdx_slice, Int.toNat_natCast, Nat.mul_one, wJoin_eq, hi', ldP_row hrow, g0]
      refine hih1 (m1 - 1) _ _ _ (by omega) ⟨i + 1, decide ((100 : Int) < (s.size : Int)), by omega, by simp, fun h => ?_, rfl, rfl⟩
      have h2 := of_decide_eq_false h
      exact ⟨(hc rfl).1, take_all hs (hc rfl).2 (by omega)⟩
  have hi' : ¬ (i : Int) < (q.head.length : Int) := by omega
  rw [List.take_of_length_le (by omega)] at hc
  simp (config := { maxSteps := 2000000 }) (disch := first | omega | assumption | exact shr_lt (by assumption) | exact ndiff32 (by assumption) | exact below_lt (by omega) | fail) only [wLen_slice, ldP_cells, cellP_one, Option.elim_some, List.getElem?_cons_zero, List.getElem?_cons_succ, decide_false, if_false, Bool.false_eq_true, hi', hg1]
  -- the order
  refine wLoop_rule (m := q.order.length) (fun m L H' nx' => ∃ (i : Nat) (c : Bool), m + i = q.order.length ∧ L = [.bool c, .int .i64 (i : Int)] ∧ (c = false → q.aggvar.size ≤ 100 ∧ ∀ s ∈ q.head, s.size ≤ 100) ∧ Ext H1 (nx + 1) H' nx') ?_
    ⟨0, c, rfl, rfl, hc, Ext.refl _ _⟩
  clear hih1 hc hm1
  rintro m2 ih2 L H2 nx2 ⟨i2, c2, hm2, rfl, hc2, hE2⟩ hih2
  have hEE2 := hE1.trans hE2
  have hg2 := (hE2.get nx (by omega)).trans hg1
  simp (config := { maxSteps := 2000000 }) (disch := first | omega | assumption | exact shr_lt (by assumption) | exact ndiff32 (by assumption) | exact below_lt (by omega) | fail) only [List.getD_cons_zero, List.getD_cons_succ, wBin_lss, wIf_bool, wGuard_false, wBin_add64]
  by_cases hi2 : i2 < q.order.length
  case pos =>
    have hi' : (i2 : Int) < (q.order.length : Int) := by omega
    obtain ⟨k, hk⟩ : ∃ k, q.order[i2]? = some k := ⟨_, List.getElem?_eq_getElem hi2⟩
    obtain ⟨b, o, row, hOA, hb, hrow, _, hcell⟩ := Sl.elem (hQ.ext hEE2).order keyC_len (by omega) hk
    unfold keyC at hcell
    rw [hOA]
    have hE3 : Ext H2 nx2 (hs (hs H2 nx2 (some (.cells [.string ⟨#[]⟩, .bool false] 0))) nx2 (some (.cells [.string k.var, .bool k.desc] 0))) (nx2 + 1) := ((Ext.refl H2 nx2).new _ (Nat.le_refl _) (by omega) : Ext H2 nx2 _ (nx2 + 1)).hs (Nat.le_refl _)
    cases c2 with
    | true =>
      simp (config := { maxSteps := 2000000 }) (disch := first | omega | assumption | exact shr_lt (by assumption) | exact ndiff32 (by assumption) | exact below_lt (by omega) | fail) only [List.getD_cons_zero, oneCells, wLd_2, getH_same, decide_true, if_true, Nat.zero_add, true_and, and_self, wIdx_slice, Int.toNat_natCast, wSt_agg, stP_cells, List.length_cons, List.length_nil, Nat.le_refl, Nat.reduceAdd, wJoin_eq, hi', ldP_row hrow, hcell, putL_lit2]
      exact hih2 (m2 - 1) _ _ _ (by omega) ⟨i2 + 1, true, by omega, by simp, (fun h => by cases h), hE2.trans hE3⟩
    | false =>
      simp (config := { maxSteps := 2000000 }) (disch := first | omega | assumption | exact shr_lt (by assumption) | exact ndiff32 (by assumption) | exact below_lt (by omega) | fail) only [List.getD_cons_zero, wBin_gtr, wLen_string, oneCells, wLd_2, ldP_cells, cellP_one, getH_same, Option.elim_some, List.getElem?_cons_zero, decide_true, if_true, if_false, Bool.false_eq_true, Nat.zero_add, true_and, and_self, wIdx_slice, Int.toNat_natCast, wSt_agg, stP_cells, List.length_cons, List.length_nil, Nat.le_refl, Nat.reduceAdd, wJoin_eq, hi', ldP_row hrow, hcell, putL_lit2]
      exact hih2 (m2 - 1) _ _ _ (by omega) ⟨i2 + 1, decide ((100 : Int) < (k.var.size : Int)), by omega, by simp, (fun h => hc2 rfl), hE2.trans hE3⟩
  have hi2' : ¬ (i2 : Int) < (q.order.length : Int) := by omega
  simp (config := { maxSteps := 2000000 }) (disch := first | omega | assumption | exact shr_lt (by assumption) | exact ndiff32 (by assumption) | exact below_lt (by omega) | fail) only [wLen_slice, ldP_cells, cellP_one, Option.elim_some, List.getElem?_cons_zero, List.getElem?_cons_succ, decide_false, if_false, Bool.false_eq_true, hi2', hg2]
  -- the rules
  refine wLoop_rule (m := q.rules.length) (fun m L H' nx' => ∃ (i : Nat) (c : Bool) (n : Int), m + i = q.rules.length ∧ L = [.int .i64 n, .bool c, .int .i64 (i : Int)] ∧ (c = false → (q.aggvar.size ≤ 100 ∧ ∀ s ∈ q.head, s.size ≤ 100) ∧ ∀ r ∈ q.rules.take i, RuleS r) ∧ Ext H1 (nx + 1) H' nx') ?_
    ⟨0, c2, n0, rfl, rfl, fun h => ⟨hc2 h, by simp⟩, hE2⟩
  clear hih2 hc2 hm2 hEE2 hg2 hE2
  rintro m3 ih3 L H3 nx3 ⟨i3, c3, n3, hm3, rfl, hc3, hE3⟩ hih3
  have hEE3 := hE1.trans hE3
  have hg3 := (hE3.get nx (by omega)).trans hg1
  simp (config := { maxSteps := 2000000 }) (disch := first | omega | assumption | exact shr_lt (by assumption) | exact ndiff32 (by assumption) | exact below_lt (by omega) | fail) only [List.getD_cons_zero, List.getD_cons_succ, wBin_lss, wBin_gtr, wIf_bool, wGuard_false, wBin_add64]
  by_cases hi3 : i3 < q.rules.length
  case neg =>
    have hi' : ¬ (i3 : Int) < (q.rules.length : Int) := by omega
    rw [List.take_of_length_le (by omega)] at hc3
    have hfin : c3 = false → QueryS q := fun h => ⟨(hc3 h).1.2, (hc3 h).1.1, (hc3 h).2⟩
    cases c3 with
    | true =>
      simp (config := { maxSteps := 2000000 }) (disch := first | omega | assumption | exact shr_lt (by assumption) | exact ndiff32 (by assumption) | exact below_lt (by omega) | fail) only [wBin_gtr, wLen_slice, ldP_cells, cellP_one, Option.elim_some, List.getElem?_cons_zero, List.getElem?_cons_succ, decide_false, if_true, if_false, Bool.false_eq_true, hi', hg3]
      exact ⟨⟨true, rfl, hfin⟩, hEE3⟩
    | false =>
      by_cases h200 : (200 : Int) < n3
      · simp (config := { maxSteps := 2000000 }) (disch := first | omega | assumption | exact shr_lt (by assumption) | exact ndiff32 (by assumption) | exact below_lt (by omega) | fail) only [wBin_gtr, wLen_slice, ldP_cells, cellP_one, Option.elim_some, List.getElem?_cons_zero, List.getElem?_cons_succ, decide_true, decide_false, if_true, if_false, Bool.false_eq_true, hi', hg3, h200]
        exact ⟨⟨true, rfl, fun _ => hfin rfl⟩, hEE3⟩
      · simp (config := { maxSteps := 2000000 }) (disch := first | omega | assumption | exact shr_lt (by assumption) | exact ndiff32 (by assumption) | exact below_lt (by omega) | fail) only [wBin_gtr, wLen_slice, ldP_cells, cellP_one, Option.elim_some, List.getElem?_cons_zero, List.getElem?_cons_succ, decide_false, if_false, Bool.false_eq_true, hi', hg3, h200]
        exact ⟨⟨_, rfl, fun _ => hfin rfl⟩, hEE3⟩
  have hi3' : (i3 : Int) < (q.rules.length : Int) := by omega
  obtain ⟨r, hr⟩ : ∃ r, q.rules[i3]? = some r := ⟨_, List.getElem?_eq_getElem hi3⟩
  have hrm := List.mem_of_getElem? hr
  have l4 := hL.atoms r hrm
  have l5 := hL.conds r hrm
  obtain ⟨b, o, row, hRA, hb, hrow, _, hcell⟩ := Sl.elem (hQ.ext hEE3).rules ruleC_len (by omega) hr
  unfold ruleC at hcell
  rw [hRA]
  simp (config := { maxSteps := 2000000 }) (disch := first | omega | assumption | exact shr_lt (by assumption) | exact ndiff32 (by assumption) | exact below_lt (by omega) | fail) only [wLen_slice, oneCells, wLd_2, ldP_cells, cellP_one, getH_same, Option.elim_some, List.getElem?_cons_zero, List.getElem?_cons_succ, decide_true, if_true, Nat.zero_add, true_and, and_self, wIdx_slice, Int.toNat_natCast, wSt_agg, stP_cells, List.length_cons, List.length_nil, Nat.le_refl, Nat.reduceAdd, hi3', ldP_row hrow, hcell, putL_lit2]
  rw [wBin_add]
  generalize IntKind.i64.wrap (n3 + (r.conds.length : Int)) = n4
  have hE4 : Ext H3 nx3 (hs (hs H3 nx3 (some (.cells [.slice none 0 0, .slice none 0 0] 0))) nx3 (some (.cells [.slice r.AA r.atoms.length r.ac, .slice r.CA r.conds.length r.cc] 0))) (nx3 + 1) := ((Ext.refl H3 nx3).new _ (Nat.le_refl _) (by omega) : Ext H3 nx3 _ (nx3 + 1)).hs (Nat.le_refl _)
  have hg4 : getH (hs (hs H3 nx3 (some (.cells [.slice none 0 0, .slice none 0 0] 0))) nx3 (some (.cells [.slice r.AA r.atoms.length r.ac, .slice r.CA r.conds.length r.cc] 0))) nx3 = some (.cells [.slice r.AA r.atoms.length r.ac, .slice r.CA r.conds.length r.cc] 0) := getH_same _ _ _
  try simp (config := { maxSteps := 2000000 }) (disch := first | omega | assumption | exact shr_lt (by assumption) | exact ndiff32 (by assumption) | exact below_lt (by omega) | fail) only [List.getD_cons_zero, List.getD_cons_succ, wBin_lss, wBin_leq, wBin_gtr, wBin_geq, wBin_eql, wBin_neq, wIf_bool, wGuard_true, wGuard_false, wPick_true, wPick_false, wUn_not, wFld_eq, wExt_eq, wPart_one, wPart_agg, wLen_slice, wLen_string, wNew_eq, wNm_eq, dBox_agg, dBox_int, dBox_slice, dBox_string, dBox_bool, dBox_map, dBox_ptr, oneCells, wLd_none, wLd_2, wLd_3, wLd_32, ldP_cells, ldP_rom, cellP_one, getH_same, getH_ne, forceV_eq, forceN_eq, hsK_eq, Option.elim_some, List.getElem?_cons_zero, List.getElem?_cons_succ, Yld.val, decide_true, decide_false, if_true, if_false, Bool.false_eq_true, Nat.zero_add, Nat.add_zero, and_true, true_and, or_false, Bool.not_true, Bool.not_false, and_self, wBin_add64, wBin_sub64, wIdx_slice, wIdx_array, wNilc_eq, Int.toNat_natCast, Nat.mul_one, Nat.zero_mul, wSt_agg, wSt_int, wSt_bool, wSt_string, wSt_slice, wSt_ptr, wSt_map, wSt_func, stP_cells, bit_one, bit_zero, bit_one', bit_zero', wBin_shr32, wBin_and1, wBin_rem2, wBin_andNot32, wBin_or32, wBin_and32, wBin_shl32, u32_eq_zero, u32_ne_zero, List.length_cons, List.length_nil, Nat.le_refl, Nat.reduceAdd, Nat.reduceMul, Nat.reduceLeDiff, Int.toNat_zero, Int.toNat_one]
  generalize hs (hs H3 nx3 (some (.cells [.slice none 0 0, .slice none 0 0] 0))) nx3 (some (.cells [.slice r.AA r.atoms.length r.ac, .slice r.CA r.conds.length r.cc] 0)) = H4 at hE4 hg4 ⊢
  have hE14 := hE3.trans hE4
  refine wLoop_rule (m := r.conds.length) (fun m L H' nx' => ∃ (j : Nat) (c : Bool), m + j = r.conds.length ∧ L = [.bool c, .int .i64 (j : Int)] ∧ (c = false → c3 = false ∧ ∀ x ∈ r.conds.take j, x.var.size ≤ 100) ∧ Ext H4 (nx3 + 1) H' nx') ?_
    ⟨0, c3, rfl, rfl, fun h => ⟨h, by simp⟩, Ext.refl _ _⟩
  rintro m5 ih5 L H5 nx5 ⟨j, c5, hm5, rfl, hc5, hE5⟩ hih5
  have hE15 := hE14.trans hE5
  have hEE5 := hE1.trans hE15
  have hg5 := (hE5.get nx3 (by omega)).trans hg4
  simp (config := { maxSteps := 2000000 }) (disch := first | omega | assumption | exact shr_lt (by assumption) | exact ndiff32 (by assumption) | exact below_lt (by omega) | fail) only [List.getD_cons_zero, List.getD_cons_succ, wBin_lss, wIf_bool, wGuard_false, wBin_add64]
  by_cases hj : j < r.conds.length
  case pos =>
    have hj' : (j : Int) < (r.conds.length : Int) := by omega
    obtain ⟨x, hx⟩ : ∃ x, r.conds[j]? = some x := ⟨_, List.getElem?_eq_getElem hj⟩
    obtain ⟨b5, o5, row5, hCA, hb5, hrow5, _, hcell5⟩ := Sl.elem ((hQ.rule r hrm).ext hEE5).conds condC_len (by omega) hx
    unfold condC at hcell5
    rw [hCA]
    have hE6 : Ext H5 nx5 (hs (hs H5 nx5 (some (.cells [.string ⟨#[]⟩, .int .i64 0, .int .i64 0, .int .i64 0, .string ⟨#[]⟩] 0))) nx5 (some (.cells [.string x.var, .int .i64 x.op, .int .i64 x.kind, .int .i64 x.int, .string x.str] 0))) (nx5 + 1) := ((Ext.refl H5 nx5).new _ (Nat.le_refl _) (by omega) : Ext H5 nx5 _ (nx5 + 1)).hs (Nat.le_refl _)
    cases c5 with
    | true =>
      simp (config := { maxSteps := 2000000 }) (disch := first | omega | assumption | exact shr_lt (by assumption) | exact ndiff32 (by assumption) | exact below_lt (by omega) | fail) only [List.getD_cons_zero, oneCells, getH_same, decide_true, if_true, Nat.zero_add, true_and, and_self, wIdx_slice, Int.toNat_natCast, wSt_agg, stP_cells, List.length_cons, List.length_nil, Nat.le_refl, Nat.reduceAdd, wJoin_eq, hj', ldP_row hrow5, hcell5, wLd_5, putL_lit5]
      exact hih5 (m5 - 1) _ _ _ (by omega) ⟨j + 1, true, by omega, by simp, (fun h => by cases h), hE5.trans hE6⟩
    | false =>
      by_cases h100 : (100 : Int) < (x.var.size : Int)
      · simp (config := { maxSteps := 2000000 }) (disch := first | omega | assumption | exact shr_lt (by assumption) | exact ndiff32 (by assumption) | exact below_lt (by omega) | fail) only [List.getD_cons_zero, wBin_gtr, wGuard_false, wLen_string, oneCells, ldP_cells, cellP_one, getH_same, Option.elim_some, List.getElem?_cons_zero, List.getElem?_cons_succ, decide_true, if_true, if_false, Bool.false_eq_true, Nat.zero_add, true_and, and_self, wIdx_slice, Int.toNat_natCast, wSt_agg, stP_cells, List.length_cons, List.length_nil, Nat.le_refl, Nat.reduceAdd, wJoin_eq, hj', ldP_row hrow5, hcell5, wLd_5, putL_lit5, h100]
        exact hih5 (m5 - 1) _ _ _ (by omega) ⟨j + 1, true, by omega, by simp, (fun h => by cases h), hE5.trans hE6⟩
      · simp (config := { maxSteps := 2000000 }) (disch := first | omega | assumption | exact shr_lt (by assumption) | exact ndiff32 (by assumption) | exact below_lt (by omega) | fail) only [List.getD_cons_zero, wBin_gtr, wGuard_false, wLen_string, oneCells, ldP_cells, cellP_one, getH_same, Option.elim_some, List.getElem?_cons_zero, List.getElem?_cons_succ, decide_true, decide_false, if_true, if_false, Bool.false_eq_true, Nat.zero_add, true_and, and_self, wIdx_slice, Int.toNat_natCast, wSt_agg, stP_cells, List.length_cons, List.length_nil, Nat.le_refl, Nat.reduceAdd, wJoin_eq, hj', ldP_row hrow5, hcell5, wLd_5, putL_lit5, h100]
        exact hih5 (m5 - 1) _ _ _ (by omega) ⟨j + 1, decide ((100 : Int) < (x.str.size : Int)), by omega, by simp, (fun h => ⟨(hc5 rfl).1, take_all hx (hc5 rfl).2 (by omega)⟩), hE5.trans hE6⟩
  have hj' : ¬ (j : Int) < (r.conds.length : Int) := by omega
  rw [List.take_of_length_le (by omega)] at hc5
  simp (config := { maxSteps := 2000000 }) (disch := first | omega | assumption | exact shr_lt (by assumption) | exact ndiff32 (by assumption) | exact below_lt (by omega) | fail) only [wLen_slice, ldP_cells, cellP_one, Option.elim_some, List.getElem?_cons_zero, decide_false, if_false, Bool.false_eq_true, hj', hg5]
  refine wLoop_rule (m := r.atoms.length) (fun m L H' nx' => ∃ (k : Nat) (c : Bool) (n : Int), m + k = r.atoms.length ∧ L = [.int .i64 n, .bool c, .int .i64 (k : Int)] ∧ (c = false → c5 = false ∧ ∀ a ∈ r.atoms.take k, AtomS a) ∧ Ext H1 (nx + 1) H' nx') ?_
    ⟨0, c5, n4, rfl, rfl, fun h => ⟨h, by simp⟩, hE15⟩
  clear hih5
  rintro m6 ih6 L H6 nx6 ⟨k, c6, n6, hm6, rfl, hc6, hE6⟩ hih6
  have hEE6 := hE1.trans hE6
  simp (config := { maxSteps := 2000000 }) (disch := first | omega | assumption | exact shr_lt (by assumption) | exact ndiff32 (by assumption) | exact below_lt (by omega) | fail) only [List.getD_cons_zero, List.getD_cons_succ, wBin_lss, wIf_bool, wGuard_false, wBin_add64]
  by_cases hk : k < r.atoms.length
  case neg =>
    have hk' : ¬ (k : Int) < (r.atoms.length : Int) := by omega
    rw [List.take_of_length_le (by omega)] at hc6
    simp (config := { maxSteps := 2000000 }) (disch := first | omega | assumption | exact shr_lt (by assumption) | exact ndiff32 (by assumption) | exact below_lt (by omega) | fail) only [decide_false, if_false, Bool.false_eq_true, hk']
    refine hih3 (m3 - 1) _ _ _ (by omega) ⟨i3 + 1, c6, n6, by omega, by simp, fun h => ?_, hE6⟩
    obtain ⟨h1, h2⟩ := hc6 h
    obtain ⟨h3, h4⟩ := hc5 h1
    obtain ⟨h5, h6⟩ := hc3 h3
    exact ⟨h5, take_all hr h6 ⟨h2, h4⟩⟩
  have hk' : (k : Int) < (r.atoms.length : Int) := by omega
  obtain ⟨a, ha⟩ : ∃ a, r.atoms[k]? = some a := ⟨_, List.getElem?_eq_getElem hk⟩
  have ham := List.mem_of_getElem? ha
  have l6 := hL.terms r hrm a ham
  obtain ⟨b7, o7, row7, hAA, hb7, hrow7, _, hcell7⟩ := Sl.elem ((hQ.rule r hrm).ext hEE6).atoms atomC_len (by omega) ha
  unfold atomC at hcell7
  rw [hAA]
  have hE7 : Ext H6 nx6 (hs (hs H6 nx6 (some (.cells [.bool false, .string ⟨#[]⟩, .slice none 0 0] 0))) nx6 (some (.cells [.bool a.neg, .string a.rel, .slice a.TA a.terms.length a.tc] 0))) (nx6 + 1) := ((Ext.refl H6 nx6).new _ (Nat.le_refl _) (by omega) : Ext H6 nx6 _ (nx6 + 1)).hs (Nat.le_refl _)
  have hg7 : getH (hs (hs H6 nx6 (some (.cells [.bool false, .string ⟨#[]⟩, .slice none 0 0] 0))) nx6 (some (.cells [.bool a.neg, .string a.rel, .slice a.TA a.terms.length a.tc] 0))) nx6 = some (.cells [.bool a.neg, .string a.rel, .slice a.TA a.terms.length a.tc] 0) := getH_same _ _ _
  simp (config := { maxSteps := 2000000 }) (disch := first | omega | assumption | exact shr_lt (by assumption) | exact ndiff32 (by assumption) | exact below_lt (by omega) | fail) only [wBin_gtr, wLen_slice, wLen_string, oneCells, wLd_3, ldP_cells, cellP_one, getH_same, Option.elim_some, List.getElem?_cons_zero, List.getElem?_cons_succ, decide_true, if_true, Nat.zero_add, true_and, and_self, wBin_add64, wIdx_slice, Int.toNat_natCast, wSt_agg, stP_cells, List.length_cons, List.length_nil, Nat.le_refl, Nat.reduceAdd, hk', ldP_row hrow7, hcell7, putL_lit3]
  rw [wBin_add]
  generalize IntKind.i64.wrap (n6 + (1 + (a.terms.length : Int))) = n7
  try simp (config := { maxSteps := 2000000 }) (disch := first | omega | assumption | exact shr_lt (by assumption) | exact ndiff32 (by assumption) | exact below_lt (by omega) | fail) only [List.getD_cons_zero, List.getD_cons_succ, wBin_lss, wBin_leq, wBin_gtr, wBin_geq, wBin_eql, wBin_neq, wIf_bool, wGuard_true, wGuard_false, wPick_true, wPick_false, wUn_not, wFld_eq, wExt_eq, wPart_one, wPart_agg, wLen_slice, wLen_string, wNew_eq, wNm_eq, dBox_agg, dBox_int, dBox_slice, dBox_string, dBox_bool, dBox_map, dBox_ptr, oneCells, wLd_none, wLd_2, wLd_3, wLd_32, ldP_cells, ldP_rom, cellP_one, getH_same, getH_ne, forceV_eq, forceN_eq, hsK_eq, Option.elim_some, List.getElem?_cons_zero, List.getElem?_cons_succ, Yld.val, decide_true, decide_false, if_true, if_false, Bool.false_eq_true, Nat.zero_add, Nat.add_zero, and_true, true_and, or_false, Bool.not_true, Bool.not_false, and_self, wBin_add64, wBin_sub64, wIdx_slice, wIdx_array, wNilc_eq, Int.toNat_natCast, Nat.mul_one, Nat.zero_mul, wSt_agg, wSt_int, wSt_bool, wSt_string, wSt_slice, wSt_ptr, wSt_map, wSt_func, stP_cells, bit_one, bit_zero, bit_one', bit_zero', wBin_shr32, wBin_and1, wBin_rem2, wBin_andNot32, wBin_or32, wBin_and32, wBin_shl32, u32_eq_zero, u32_ne_zero, List.length_cons, List.length_nil, Nat.le_refl, Nat.reduceAdd, Nat.reduceMul, Nat.reduceLeDiff, Int.toNat_zero, Int.toNat_one]
  generalize hs (hs H6 nx6 (some (.cells [.bool false, .string ⟨#[]⟩, .slice none 0 0] 0))) nx6 (some (.cells [.bool a.neg, .string a.rel, .slice a.TA a.terms.length a.tc] 0)) = H7 at hE7 hg7 ⊢
  have hE17 := hE6.trans hE7
  refine wJoin_rule (fun L H' nx' => (∃ c : Bool, L = [.bool c] ∧ (c = false → c6 = false ∧ a.rel.size ≤ 100)) ∧ H7 = H' ∧ nx6 + 1 = nx') ?_ ?_
  · intro tj hj
    cases c6 with
    | true =>
      simp (config := { maxSteps := 2000000 }) (disch := first | omega | assumption | exact shr_lt (by assumption) | exact ndiff32 (by assumption) | exact below_lt (by omega) | fail) only [if_true]
      exact hj _ _ _ ⟨⟨true, rfl, fun h => by cases h⟩, rfl, rfl⟩
    | false =>
      simp (config := { maxSteps := 2000000 }) (disch := first | omega | assumption | exact shr_lt (by assumption) | exact ndiff32 (by assumption) | exact below_lt (by omega) | fail) only [if_false, Bool.false_eq_true]
      exact hj _ _ _ ⟨⟨_, rfl, fun h => ⟨rfl, by have := of_decide_eq_false h; omega⟩⟩, rfl, rfl⟩
  rintro _ _ _ ⟨⟨c7, rfl, hc7⟩, rfl, rfl⟩
  simp (config := { maxSteps := 2000000 }) (disch := first | omega | assumption | exact shr_lt (by assumption) | exact ndiff32 (by assumption) | exact below_lt (by omega) | fail) only [List.getD_cons_zero, wLen_slice, ldP_cells, cellP_one, Option.elim_some, List.getElem?_cons_zero, List.getElem?_cons_succ, hg7]
  refine wLoop_rule (m := a.terms.length) (fun m L H' nx' => ∃ (l : Nat) (c : Bool), m + l = a.terms.length ∧ L = [.bool c, .int .i64 (l : Int)] ∧ (c = false → c7 = false ∧ ∀ t ∈ a.terms.take l, t.var.size ≤ 100) ∧ Ext H7 (nx6 + 1) H' nx') ?_
    ⟨0, c7, rfl, rfl, fun h => ⟨h, by simp⟩, Ext.refl _ _⟩
  rintro m8 ih8 L H8 nx8 ⟨l, c8, hm8, rfl, hc8, hE8⟩ hih8
  have hE18 := hE17.trans hE8
  have hEE8 := hE1.trans hE18
  simp (config := { maxSteps := 2000000 }) (disch := first | omega | assumption | exact shr_lt (by assumption) | exact ndiff32 (by assumption) | exact below_lt (by omega) | fail) only [List.getD_cons_zero, List.getD_cons_succ, wBin_lss, wIf_bool, wGuard_false, wBin_add64]
  by_cases hl : l < a.terms.length
  case neg =>
    have hl' : ¬ (l : Int) < (a.terms.length : Int) := by omega
    rw [List.take_of_length_le (by omega)] at hc8
    simp (config := { maxSteps := 2000000 }) (disch := first | omega | assumption | exact shr_lt (by assumption) | exact ndiff32 (by assumption) | exact below_lt (by omega) | fail) only [decide_false, if_false, Bool.false_eq_true, hl']
    refine hih6 (m6 - 1) _ _ _ (by omega) ⟨k + 1, c8, n7, by omega, by simp, fun h => ?_, hE18⟩
    obtain ⟨h1, h2⟩ := hc8 h
    obtain ⟨h3, h4⟩ := hc7 h1
    obtain ⟨h5, h6⟩ := hc6 h3
    exact ⟨h5, take_all ha h6 ⟨h4, h2⟩⟩
  have hl' : (l : Int) < (a.terms.length : Int) := by omega
  obtain ⟨t, ht⟩ : ∃ t, a.terms[l]? = some t := ⟨_, List.getElem?_eq_getElem hl⟩
  obtain ⟨b9, o9, row9, hTA, hb9, hrow9, _, hcell9⟩ := Sl.elem (show Sl H8 nx8 a.TA (a.terms.flatMap termC) from ((hQ.rule r hrm).terms a ham).ext hEE8) termC_len (by omega) ht
  unfold termC at hcell9
  rw [hTA]
  have hE9 : Ext H8 nx8 (hs (hs H8 nx8 (some (.cells [.string ⟨#[]⟩, .int .i64 0, .int .i64 0, .string ⟨#[]⟩] 0))) nx8 (some (.cells [.string t.var, .int .i64 t.kind, .int .i64 t.int, .string t.str] 0))) (nx8 + 1) := ((Ext.refl H8 nx8).new _ (Nat.le_refl _) (by omega) : Ext H8 nx8 _ (nx8 + 1)).hs (Nat.le_refl _)
  cases c8 with
  | true =>
    simp (config := { maxSteps := 2000000 }) (disch := first | omega | assumption | exact shr_lt (by assumption) | exact ndiff32 (by assumption) | exact below_lt (by omega) | fail) only [List.getD_cons_zero, oneCells, getH_same, decide_true, if_true, Nat.zero_add, true_and, and_self, wIdx_slice, Int.toNat_natCast, wSt_agg, stP_cells, List.length_cons, List.length_nil, Nat.le_refl, Nat.reduceAdd, wJoin_eq, hl', ldP_row hrow9, hcell9, wLd_4, putL_lit4]
    exact hih8 (m8 - 1) _ _ _ (by omega) ⟨l + 1, true, by omega, by simp, (fun h => by cases h), hE8.trans hE9⟩
  | false =>
    by_cases h100 : (100 : Int) < (t.var.size : Int)
    · simp (config := { maxSteps := 2000000 }) (disch := first | omega | assumption | exact shr_lt (by assumption) | exact ndiff32 (by assumption) | exact below_lt (by omega) | fail) only [List.getD_cons_zero, wBin_gtr, wGuard_false, wLen_string, oneCells, ldP_cells, cellP_one, getH_same, Option.elim_some, List.getElem?_cons_zero, List.getElem?_cons_succ, decide_true, if_true, if_false, Bool.false_eq_true, Nat.zero_add, true_and, and_self, wIdx_slice, Int.toNat_natCast, wSt_agg, stP_cells, List.length_cons, List.length_nil, Nat.le_refl, Nat.reduceAdd, wJoin_eq, hl', ldP_row hrow9, hcell9, wLd_4, putL_lit4, h100]
      exact hih8 (m8 - 1) _ _ _ (by omega) ⟨l + 1, true, by omega, by simp, (fun h => by cases h), hE8.trans hE9⟩
    · simp (config := { maxSteps := 2000000 }) (disch := first | omega | assumption | exact shr_lt (by assumption) | exact ndiff32 (by assumption) | exact below_lt (by omega) | fail) only [List.getD_cons_zero, wBin_gtr, wGuard_false, wLen_string, oneCells, ldP_cells, cellP_one, getH_same, Option.elim_some, List.getElem?_cons_zero, List.getElem?_cons_succ, decide_true, decide_false, if_true, if_false, Bool.false_eq_true, Nat.zero_add, true_and, and_self, wIdx_slice, Int.toNat_natCast, wSt_agg, stP_cells, List.length_cons, List.length_nil, Nat.le_refl, Nat.reduceAdd, wJoin_eq, hl', ldP_row hrow9, hcell9, wLd_4, putL_lit4, h100]
      exact hih8 (m8 - 1) _ _ _ (by omega) ⟨l + 1, decide ((100 : Int) < (t.str.size : Int)), by omega, by simp, (fun h => ⟨(hc8 rfl).1, take_all ht (hc8 rfl).2 (by omega)⟩), hE8.trans hE9⟩
end Go.Proofs.YthbdeaeghipliaaGreatDoor

set_option linter.unusedSimpArgs false
set_option linter.unusedVariables false
set_option linter.unusedSectionVars false
namespace Go.Clo

section
variable {X : Type} {enc : TypeId × Value → X} {P : Program} {w : World} {α β : Type}

/-- What is read at the type has a form; the heap grows by what it needs. -/
def Opn (enc : TypeId × Value → X) (P : Program) (w : World) (t : TypeId) (f : α → List Value) (Pr : Heap → Nat → α → Prop) : Prop :=
  ∀ (F : FM) (H : Heap) (nx n : Nat) (cs : List Value) (y : DataW X × List MemPlace), In w F H nx → DataW.trod enc P w 0 (fun _ => true) true n t cs = some y → (∀ k ∈ y.1.weights P t, k ≤ reachBytes) →
    ∃ (F' : FM) (H' : Heap) (nx' : Nat) (a : α), In w F' H' nx' ∧ F.le F' ∧ Ext H nx H' nx' ∧ VL F' (f a) cs ∧ Pr H' nx' a
def Kept (Pr : Heap → Nat → α → Prop) : Prop := ∀ H nx H' nx' a, Pr H nx a → Ext H nx H' nx' → Pr H' nx' a

theorem Opn.map {t : TypeId} {f : α → List Value} {Pr : Heap → Nat → α → Prop} {f' : β → List Value} {Pr' : Heap → Nat → β → Prop} (g : α → β) (h : Opn enc P w t f Pr) (hf : ∀ a, f' (g a) = f a) (hP : ∀ H nx a, Pr H nx a → Pr' H nx (g a)) : Opn enc P w t f' Pr' := by
  intro F H nx n cs y hi ht hw
  obtain ⟨F', H', nx', a, h1, h2, h3, h4, h5⟩ := h F H nx n cs y hi ht hw
  exact ⟨F', H', nx', g a, h1, h2, h3, by rw [hf]; exact h4, hP _ _ _ h5⟩
theorem Opn.int {t : TypeId} {k : IntKind} (ht : P.underlying t = some (.int k)) : Opn enc P w t (fun n : Int => [.int k n]) (fun _ _ n => (Lit.int k n).wf = true) := by
  intro F H nx n cs y hi hd hw
  obtain ⟨z, rfl, _, hz⟩ := DataW.trod_int ht hd
  exact ⟨F, H, nx, z, hi, fun _ _ h => h, Ext.refl _ _, .cons (.int _ _) .nil, hz⟩
theorem Opn.bool {t : TypeId} (ht : P.underlying t = some .bool) : Opn enc P w t (fun b : Bool => [.bool b]) (fun _ _ _ => True) := by
  intro F H nx n cs y hi hd hw
  obtain ⟨b, rfl, _⟩ := DataW.trod_bool ht hd
  exact ⟨F, H, nx, b, hi, fun _ _ h => h, Ext.refl _ _, .cons (.bool _) .nil, trivial⟩
theorem Opn.string {t : TypeId} (ht : P.underlying t = some .string) : Opn enc P w t (fun s : ByteArray => [.string s]) (fun _ _ _ => True) := by
  intro F H nx n cs y hi hd hw
  obtain ⟨s, rfl, _, _⟩ := DataW.trod_string ht hd
  exact ⟨F, H, nx, s, hi, fun _ _ h => h, Ext.refl _ _, .cons (.string _) .nil, trivial⟩

/-! Structs. -/
/-- Fields, one behind the other. -/
def OpnFs (enc : TypeId × Value → X) (P : Program) (w : World) (off : Nat) (fs : List Field) (f : α → List Value) (Pr : Heap → Nat → α → Prop) : Prop :=
  ∀ (F : FM) (H : Heap) (nx n : Nat) (cs : List Value) (xs : List (DataW X × List MemPlace)), In w F H nx → xs.length = fs.length →
    (∀ (i : Nat) (fl : Field), fs[i]? = some fl → DataW.trod enc P w 0 (fun _ => true) true n fl.type ((cs.drop fl.offset).take (P.cellsOf fl.type)) = xs[i]?) →
    (∀ k ∈ DataW.weightsEach P (fs.map (·.type)) (xs.map (·.1)), k ≤ reachBytes) →
    cs.length = off + (fs.map fun fl => P.cellsOf fl.type).foldr (· + ·) 0 →
    ∃ (F' : FM) (H' : Heap) (nx' : Nat) (a : α), In w F' H' nx' ∧ F.le F' ∧ Ext H nx H' nx' ∧ VL F' (f a) (cs.drop off) ∧ Pr H' nx' a
theorem OpnFs.nil {off : Nat} : OpnFs enc P w off [] (fun _ : Unit => []) (fun _ _ _ => True) := by
  intro F H nx n cs xs hi _ _ _ hc
  refine ⟨F, H, nx, (), hi, fun _ _ h => h, Ext.refl _ _, ?_, trivial⟩
  simp only [List.map_nil, List.foldr_nil, Nat.add_zero] at hc
  rw [List.drop_eq_nil_of_le (by omega)]; exact .nil
theorem OpnFs.cons {off : Nat} (c : Nat) {fl : Field} {fs : List Field} {f : α → List Value} {Pr : Heap → Nat → α → Prop} {f' : β → List Value} {Pr' : Heap → Nat → β → Prop} (ho : fl.offset = off) (hc : P.cellsOf fl.type = c)
    (hK : Kept Pr) (h : Opn enc P w fl.type f Pr) (r : OpnFs enc P w (off + c) fs f' Pr') : OpnFs enc P w off (fl :: fs) (fun x : α × β => f x.1 ++ f' x.2) (fun H nx x => Pr H nx x.1 ∧ Pr' H nx x.2) := by
  intro F H nx n cs xs hi hl ht hw hcs
  cases xs with
  | nil => simp at hl
  | cons x xs =>
    have h0 := ht 0 fl rfl
    rw [ho, hc] at h0
    obtain ⟨F1, H1, nx1, a, i1, l1, e1, v1, p1⟩ := h F H nx n _ x hi h0 fun k hk => hw k (by simp only [List.map_cons, DataW.weightsEach, List.mem_append]; exact .inl hk)
    obtain ⟨F2, H2, nx2, b, i2, l2, e2, v2, p2⟩ := r F1 H1 nx1 n cs xs i1 (by simpa using hl) (fun i g hg => by simpa using ht (i + 1) g (by simpa using hg)) (fun k hk => hw k (by simp only [List.map_cons, DataW.weightsEach, List.mem_append]; exact .inr hk))
      (by simp only [List.map_cons, List.foldr_cons, hc] at hcs; omega)
    refine ⟨F2, H2, nx2, (a, b), i2, fun _ _ hh => l2 _ _ (l1 _ _ hh), e1.trans e2, ?_, hK _ _ _ _ _ p1 e2, p2⟩
    have e : cs.drop off = (cs.drop off).take c ++ cs.drop (off + c) := by rw [← List.drop_drop, List.take_append_drop]
    rw [e]
    exact (VL.mono l2 v1).append v2
theorem Opn.struct {t : TypeId} {fs : Array Field} {f : α → List Value} {Pr : Heap → Nat → α → Prop} (ht : P.underlying t = some (.struct fs)) (hc : P.cellsOf t = (fs.toList.map fun fl => P.cellsOf fl.type).foldr (· + ·) 0) (h : OpnFs enc P w 0 fs.toList f Pr) : Opn enc P w t f Pr := by
  intro F H nx n cs y hi hd hw
  obtain ⟨xs, m, _, rfl, hl, hx, hel⟩ := DataW.trod_struct ht hd
  have := h F H nx m cs xs hi (by simpa using hx) (fun i fl hf => hel i fl (by simpa using hf)) (fun k hk => hw k (by simpa [DataW.weights, ht] using hk)) (by rw [hl, hc]; omega)
  simpa using this

/-! Slices. -/
theorem weights_all {e : TypeId} {d : DataW X} : ∀ {l : List (DataW X)}, d ∈ l → ∀ k ∈ d.weights P e, k ∈ DataW.weightsAll P e l
  | [], h, _, _ => by cases h
  | a :: l, h, k, hk => by
    simp only [DataW.weightsAll, List.mem_append]
    rcases List.mem_cons.1 h with rfl | h
    · exact .inl hk
    · exact .inr (weights_all h k hk)
theorem vl_rows {F : FM} {f : α → List Value} {sz : Nat} (hf : ∀ a, (f a).length = sz) : ∀ (xs : List α) (l : List Value), (∀ i a, xs[i]? = some a → VL F (f a) ((l.drop (i * sz)).take sz)) → VL F (xs.flatMap f) (l.take (xs.length * sz))
  | [], l, _ => by simp; exact .nil
  | a :: xs, l, h => by
    have h0 : VL F (f a) (l.take sz) := by simpa using h 0 a rfl
    have ih := vl_rows hf xs (l.drop sz) fun i b hb => by
      have := h (i + 1) b (by simpa using hb)
      rw [List.drop_drop]
      rw [Nat.add_mul, Nat.one_mul, Nat.add_comm] at this
      exact this
    rw [List.length_cons, Nat.add_mul, Nat.one_mul, Nat.add_comm, List.take_add, List.flatMap_cons]
    exact h0.append ih
/-- Elements, one after the other. -/
theorem open_elems {e : TypeId} {f : α → List Value} {Pr : Heap → Nat → α → Prop} (hK : Kept Pr) (he : Opn enc P w e f Pr) {n : Nat} {cs : Nat → List Value} : ∀ (len : Nat) (F : FM) (H : Heap) (nx : Nat), In w F H nx →
    (∀ i, i < len → ∃ y : DataW X × List MemPlace, DataW.trod enc P w 0 (fun _ => true) true n e (cs i) = some y ∧ ∀ k ∈ y.1.weights P e, k ≤ reachBytes) →
    ∃ (F' : FM) (H' : Heap) (nx' : Nat) (xs : List α), In w F' H' nx' ∧ F.le F' ∧ Ext H nx H' nx' ∧ xs.length = len ∧ (∀ i a, xs[i]? = some a → VL F' (f a) (cs i)) ∧ ∀ a ∈ xs, Pr H' nx' a
  | 0, F, H, nx, hi, _ => ⟨F, H, nx, [], hi, fun _ _ h => h, Ext.refl _ _, rfl, fun i a h => by simp at h, by simp⟩
  | len + 1, F, H, nx, hi, hh => by
    obtain ⟨F1, H1, nx1, xs, i1, l1, e1, c1, v1, p1⟩ := open_elems hK he len F H nx hi fun i h => hh i (by omega)
    obtain ⟨y, hy, hw⟩ := hh len (by omega)
    obtain ⟨F2, H2, nx2, a, i2, l2, e2, v2, p2⟩ := he F1 H1 nx1 n _ y i1 hy hw
    refine ⟨F2, H2, nx2, xs ++ [a], i2, fun _ _ h => l2 _ _ (l1 _ _ h), e1.trans e2, by simp [c1], fun i b hb => ?_, fun b hb => ?_⟩
    · by_cases hil : i < len
      · rw [List.getElem?_append_left (by omega)] at hb
        exact VL.mono l2 (v1 i b hb)
      · have : i = len := by
          have := (List.getElem?_eq_some_iff.mp hb).1
          simp at this; omega
        subst this
        rw [List.getElem?_append_right (by omega), c1, Nat.sub_self] at hb
        simp at hb; subst hb; exact v2
    · rcases List.mem_append.1 hb with hb | hb
      · exact hK _ _ _ _ _ (p1 b hb) e2
      · simp at hb; subst hb; exact p2
/-- A slice whose place in memory is known. -/
theorem open_row {e : TypeId} {f : α → List Value} {Pr : Heap → Nat → α → Prop} {sz : Nat} (hsz : P.cellsOf e = sz) (hf : ∀ a, (f a).length = sz) (hK : Kept Pr) (he : Opn enc P w e f Pr) {F : FM} {H : Heap} {nx : Nat} (hi : In w F H nx)
    {a : Addr} {c' : Array Value} {ety : TypeId} {m : Nat × Nat} (hsp : a.spot = none) (hb : w.heap[a.block]? = some (.cells c' ety m)) (hoff : a.off ≤ c'.size) {len cap n : Nat} {elems : List (DataW X × List MemPlace)} (hlen : elems.length = len)
    (hel : ∀ i, i < len → (w.cells? 0 (a.add (i * P.cellsOf e)) (P.cellsOf e)).bind (DataW.trod enc P w 0 (fun _ => true) true n e) = elems[i]?) (hw : ∀ y ∈ elems, ∀ k ∈ y.1.weights P e, k ≤ reachBytes) :
    ∃ (F' : FM) (H' : Heap) (nx' : Nat) (b : Nat) (xs : List α), In w F' H' nx' ∧ F.le F' ∧ Ext H nx H' nx' ∧ VR F' (.slice (some ⟨b, 0, none⟩) len cap) (.slice (some a) len cap) ∧ xs.length = len ∧ b < nx' ∧ getH H' b = some (.rom (xs.flatMap f)) ∧ ∀ x ∈ xs, Pr H' nx' x := by
  obtain ⟨F1, H1, nx1, xs, i1, l1, e1, c1, v1, p1⟩ := open_elems (w := w) hK he (n := n) (cs := fun i => (c'.toList.drop (a.off + i * sz)).take sz) len F H nx hi fun i hil => by
    have h1 := hel i hil
    rw [List.getElem?_eq_getElem (by omega)] at h1
    obtain ⟨cs, h2, h3⟩ := Option.bind_eq_some_iff.mp h1
    rw [hsz] at h2
    rw [cells_at hb hsp h2]
    exact ⟨_, h3, hw _ (List.getElem_mem _)⟩
  have hv : VL F1 (xs.flatMap f) ((c'.toList.drop a.off).take (xs.flatMap f).length) := by
    rw [flat_length hf]
    exact vl_rows hf xs _ fun i y hy => by rw [List.drop_drop]; exact v1 i y hy
  have hle : a.off + (xs.flatMap f).length ≤ c'.size := by
    have h1 := hv.length
    simp only [List.length_take, List.length_drop, Array.length_toList] at h1
    omega
  have hrom := i1.row hb hle hv
  have hg : getH (hs H1 nx1 (some (.rom (xs.flatMap f)))) nx1 = some (.rom (xs.flatMap f)) := getH_same _ _ _
  refine ⟨_, _, _, nx1, xs, hrom, fun _ _ h => putF_le i1 _ _ _ (l1 _ _ h), (e1.new _ e1.le (Nat.le_succ _)), ?_, c1, Nat.lt_succ_self _, hg, fun x hx => hK _ _ _ _ _ (p1 x hx) ((Ext.refl H1 nx1).new _ (Nat.le_refl _) (Nat.le_succ _))⟩
  have := VR.slice (F := putF F1 nx1 ⟨a.block, a.off, (xs.flatMap f).length, 0, c'.size⟩) (b := nx1) (o := 0) (n := len) (c := cap) (c' := cap) (t := ⟨a.block, a.off, (xs.flatMap f).length, 0, c'.size⟩) (by simp [putF]) (.inl rfl)
  have ha : a = ⟨a.block, a.off + 0, none⟩ := by cases a; simp at hsp; subst hsp; rfl
  rw [ha]; exact this
theorem sl_rom {H : Heap} {nx b : Nat} {c : List Value} (hb : b < nx) (hg : getH H b = some (.rom c)) : Sl H nx (some ⟨b, 0, none⟩) c :=
  fun i v h => ⟨b, 0, c, rfl, hb, by rw [rowOf, hg]; rfl, by rw [Nat.zero_add]; exact h⟩
/-- A place of which a cell can be read. -/
theorem place_of_cells {a : Addr} {k sz : Nat} {cs : List Value} (h : w.cells? 0 (a.add k) sz = some cs) (hsz : 0 < sz) (hk : k = 0) : a.spot = none ∧ ∃ c' ety m, w.heap[a.block]? = some (.cells c' ety m) ∧ a.off ≤ c'.size := by
  subst hk
  obtain ⟨_, hl, hc⟩ := World.cells?_some h
  have h0 := hc 0 hsz
  rw [List.getElem?_eq_getElem (by omega)] at h0
  have ha : (a.add 0).add 0 = a := rfl
  rw [ha] at h0
  unfold World.cell? at h0
  split at h0
  · rename_i c' ety m hb
    split at h0
    · cases h0
    · rename_i hs
      refine ⟨by simpa using hs, c', ety, m, hb, ?_⟩
      have := (Array.getElem?_eq_some_iff.1 h0).1
      omega
  · cases h0
theorem Opn.slice {t e : TypeId} {f : α → List Value} {Pr : Heap → Nat → α → Prop} {sz : Nat} (ht : P.underlying t = some (.slice e)) (hsz : P.cellsOf e = sz) (h0 : 0 < sz) (hb1 : 1 ≤ P.bytesOf e) (hf : ∀ a, (f a).length = sz) (hK : Kept Pr) (he : Opn enc P w e f Pr) :
    Opn enc P w t (fun x : Option Addr × Nat × List α => [.slice x.1 x.2.2.length x.2.1]) (fun H nx x => Sl H nx x.1 (x.2.2.flatMap f) ∧ (∀ a ∈ x.2.2, Pr H nx a) ∧ x.2.2.length ≤ reachBytes) := by
  intro F H nx n cs y hi hd hw
  rcases DataW.trod_slice ht hd with ⟨rfl, _⟩ | ⟨a, len, cap, elems, rest, m, _, rfl, rfl, _, hlc, _, hlen, hel, hrest, _⟩
  · exact ⟨F, H, nx, (none, 0, []), hi, fun _ _ h => h, Ext.refl _ _, .cons (.sliceN 0 0) .nil, Sl.nil _ _ _, by simp, by simp⟩
  · have hwy : ∀ z ∈ elems, ∀ k ∈ z.1.weights P e, k ≤ reachBytes := fun z hz k hk => hw k (by
      simp only [DataW.weights, ht, List.mem_cons, List.mem_append]
      exact .inr (.inl (weights_all (List.mem_map_of_mem hz) k hk)))
    have hlr : len ≤ reachBytes := by
      have h1 := hw ((elems.length + rest.length) * P.bytesOf e) (by simp [DataW.weights, ht])
      have h2 := Nat.mul_le_mul (show len ≤ elems.length + rest.length by omega) hb1
      omega
    by_cases hcap : cap = 0
    · subst hcap
      have hl0 : len = 0 := by omega
      rw [hl0]
      exact ⟨F, H, nx, (some ⟨0, 0, some 0⟩, 0, []), hi, fun _ _ h => h, Ext.refl _ _, .cons (.sliceW 0 a) .nil, Sl.nil _ _ _, by simp, by simp⟩
    · obtain ⟨cs0, hcs0⟩ : ∃ cs0, w.cells? 0 (a.add 0) sz = some cs0 := by
        by_cases hl0 : 0 < len
        · have h1 := hel 0 hl0
          rw [List.getElem?_eq_getElem (by omega), Nat.zero_mul, hsz] at h1
          obtain ⟨cs, h2, _⟩ := Option.bind_eq_some_iff.mp h1
          exact ⟨cs, h2⟩
        · obtain ⟨hrl, h1⟩ := hrest rfl
          have h2 := h1 0 (by omega)
          rw [List.getElem?_eq_getElem (by omega), show (len + 0) * P.cellsOf e = 0 by rw [show len = 0 by omega]; simp, hsz] at h2
          obtain ⟨cs, h3, _⟩ := Option.bind_eq_some_iff.mp h2
          exact ⟨cs, h3⟩
      obtain ⟨hs, c', ety, mm, hb, hoff⟩ := place_of_cells hcs0 h0 rfl
      obtain ⟨F', H', nx', b, xs, i1, l1, e1, v1, c1, hbn, hg, p1⟩ := open_row (cap := cap) hsz hf hK he hi hs hb hoff hlen hel hwy
      exact ⟨F', H', nx', (some ⟨b, 0, none⟩, cap, xs), i1, l1, e1, by show VL F' [.slice (some ⟨b, 0, none⟩) xs.length cap] _; rw [c1]; exact .cons v1 .nil, sl_rom hbn hg, p1, by show xs.length ≤ _; omega⟩
theorem kept_slice {f : α → List Value} {Pr : Heap → Nat → α → Prop} (hK : Kept Pr) : Kept (fun H nx (x : Option Addr × Nat × List α) => Sl H nx x.1 (x.2.2.flatMap f) ∧ (∀ a ∈ x.2.2, Pr H nx a) ∧ x.2.2.length ≤ reachBytes) :=
  fun H nx H' nx' a h e => ⟨h.1.ext e, fun x hx => hK _ _ _ _ _ (h.2.1 x hx) e, h.2.2⟩
theorem kept_true : Kept (fun (_ : Heap) (_ : Nat) (_ : α) => True) := fun _ _ _ _ _ _ _ => trivial
theorem kept_pure {p : α → Prop} : Kept (fun (_ : Heap) (_ : Nat) (a : α) => p a) := fun _ _ _ _ _ h _ => h
theorem kept_and {Pr : Heap → Nat → α → Prop} {Pr' : Heap → Nat → β → Prop} (h : Kept Pr) (h' : Kept Pr') : Kept (fun H nx (x : α × β) => Pr H nx x.1 ∧ Pr' H nx x.2) := fun H nx H' nx' a g e => ⟨h _ _ _ _ _ g.1 e, h' _ _ _ _ _ g.2 e⟩

/-- A slice that is itself an argument (or a part of one): its row is there and only read. -/
theorem In.sliceR {t e : TypeId} {f : α → List Value} {Pr : Heap → Nat → α → Prop} {sz : Nat} {r : Reach} {b0 : Nat} (ht : P.underlying t = some (.slice e)) (hsz : P.cellsOf e = sz) (hb1 : 1 ≤ P.bytesOf e) (hf : ∀ a, (f a).length = sz) (hK : Kept Pr) (he : Opn enc P w e f Pr)
    {F : FM} {H : Heap} {nx n : Nat} (hi : In w F H nx) {A : Option Addr} {len cap : Nat} {y : DataW X × List MemPlace} (hok : Cell.ok P w r b0 t (.slice A len cap)) (hd : DataW.trod enc P w 0 (fun _ => true) true n t [.slice A len cap] = some y) (hw : ∀ k ∈ y.1.weights P t, k ≤ reachBytes) :
    ∃ (F' : FM) (H' : Heap) (nx' : Nat) (A' : Option Addr) (xs : List α), In w F' H' nx' ∧ F.le F' ∧ Ext H nx H' nx' ∧ VR F' (.slice A' xs.length cap) (.slice A len cap) ∧ xs.length = len ∧ len ≤ cap ∧ len ≤ reachBytes ∧ Sl H' nx' A' (xs.flatMap f) ∧ (∀ a ∈ xs, Pr H' nx' a) ∧
      (A' = none ∧ cap = 0 ∨ ∃ b, A' = some ⟨b, 0, none⟩ ∧ b < nx' ∧ getH H' b = some (.rom (xs.flatMap f))) := by
  rcases DataW.trod_slice ht hd with ⟨h, _⟩ | ⟨a, len', cap', elems, rest, m, _, h, rfl, _, hlc, _, hlen, hel, hrest, _⟩
  · simp at h
    obtain ⟨rfl, rfl, rfl⟩ := h
    exact ⟨F, H, nx, none, [], hi, fun _ _ h => h, Ext.refl _ _, .sliceN 0 0, rfl, Nat.le_refl _, Nat.zero_le _, Sl.nil _ _ _, by simp, .inl ⟨rfl, rfl⟩⟩
  · simp at h
    obtain ⟨rfl, rfl, rfl⟩ := h
    have hwy : ∀ z ∈ elems, ∀ k ∈ z.1.weights P e, k ≤ reachBytes := fun z hz k hk => hw k (by
      simp only [DataW.weights, ht, List.mem_cons, List.mem_append]
      exact .inr (.inl (weights_all (List.mem_map_of_mem hz) k hk)))
    have hlr : len ≤ reachBytes := by
      have h1 := hw ((elems.length + rest.length) * P.bytesOf e) (by simp [DataW.weights, ht])
      have h2 := Nat.mul_le_mul (show len ≤ elems.length + rest.length by omega) hb1
      omega
    have hs : a.spot = none := by
      simp only [Cell.ok, ht] at hok
      exact hok.2.2.2.1
    obtain ⟨c', ety, mm, hb, hoff⟩ : ∃ c' ety m, w.heap[a.block]? = some (.cells c' ety m) ∧ a.off ≤ c'.size := by
      simp only [Cell.ok, ht] at hok
      obtain ⟨_, _, _, _, row, cells, hsh, hlies⟩ := hok
      unfold World.shape? at hsh
      split at hsh
      · rename_i cc ee mm hcell
        cases hsh
        refine ⟨_, _, _, hcell, ?_⟩
        have h1 := liesAt_off hlies
        exact Nat.le_trans h1 (Nat.div_mul_le_self _ _)
      · cases hsh
    obtain ⟨F', H', nx', b, xs, i1, l1, e1, v1, c1, hbn, hg, p1⟩ := open_row (cap := cap) hsz hf hK he hi hs hb hoff hlen hel hwy
    exact ⟨F', H', nx', some ⟨b, 0, none⟩, xs, i1, l1, e1, by rw [c1]; exact v1, c1, hlc, hlr, sl_rom hbn hg, p1, .inr ⟨b, rfl, hbn, hg⟩⟩
/-- A struct that is an argument. -/
theorem Opn.agg {t : TypeId} {fs : Array Field} {f : α → List Value} {Pr : Heap → Nat → α → Prop} {r : Reach} {b0 : Nat} (ht : P.underlying t = some (.struct fs)) (h : Opn enc P w t f Pr) {F : FM} {H : Heap} {nx : Nat} (hi : In w F H nx) {v : Value} {d : DataW X} {p : List MemPlace}
    (hv : Value.okWide P w r b0 t v) (hd : DataW.Trod enc P w 0 (fun _ => true) true t v d p) (hw : ∀ k ∈ d.weights P t, k ≤ reachBytes) :
    ∃ (F' : FM) (H' : Heap) (nx' : Nat) (a : α), In w F' H' nx' ∧ F.le F' ∧ Ext H nx H' nx' ∧ VR F' (.agg ⟨f a⟩) v ∧ Pr H' nx' a := by
  simp only [Value.okWide, ht] at hv
  obtain ⟨cs, rfl, _⟩ := hv
  obtain ⟨fuel, hd⟩ := hd
  obtain ⟨F', H', nx', a, h1, h2, h3, h4, h5⟩ := h F H nx fuel _ _ hi hd hw
  exact ⟨F', H', nx', a, h1, h2, h3, VR.agg' h4, h5⟩
end
end Go.Clo

set_option linter.unusedSimpArgs false
set_option linter.unusedVariables false
set_option linter.unusedSectionVars false
namespace Go.Proofs.YthbdeaeghipliaaGreatDoor
open Go.Clo
set_option maxRecDepth 100000
/-! 15: ordinal/explain.ParseVerdict -/
def d15 : D :=
  (.seq
    (.ops [
        (none, [⟨none, some 4, .a (.alloc [.int .i64 0, .slice none 0 0, .slice none 0 0])⟩,
        ⟨none, some 5, .p (.mv (.c (.int .i64 0)))⟩])] (.one .nil))
    (.seq
      (.seq
        (.ops [
            (none, [⟨none, some 18, .p (.mv (.s 0))⟩,
            ⟨none, some 19, .e (.call (.c (.func (.func 34) ⟨[]⟩ ⟨[]⟩)) [.s 18])⟩,
            ⟨none, some 6, .p (.mv (.s 19))⟩])] (.one .nil))
        (.seq
          (.ops [
              (none, [⟨none, some 20, .p (.mv (.s 6))⟩,
              ⟨none, some 21, .p (.bin .neq (.s 20) (.c (.int .i64 0)))⟩])] (.one .nil))
          (.cond (.s 21)
            (.seq
              (.ops [
                  (none, [⟨none, some 22, .p (.build [.int .i64 0, .slice none 0 0, .slice none 0 0] [(0, 1), (1, 1), (2, 1)] [])⟩,
                  ⟨none, some 23, .p (.mv (.s 6))⟩,
                  ⟨none, none, .e (.st (.s 4) (.s 22) 3)⟩,
                  ⟨none, some 5, .p (.mv (.s 23))⟩])] (.one .nil))
              .ret)
            .skip)))
      (.seq
        (.ops [
            (none, [⟨none, some 24, .p (.mv (.s 1))⟩,
            ⟨none, some 25, .e (.call (.c (.func (.func 37) ⟨[]⟩ ⟨[]⟩)) [.s 24, .c (.string ⟨#[32]⟩)])⟩,
            ⟨none, some 7, .p (.mv (.s 25))⟩])] (.one .nil))
        (.seq
          (.draw [0, 0, 2, 6, 15, 31] [
              (none, [⟨none, some 26, .e (.call (.c (.func (.func 35) ⟨[]⟩ ⟨[]⟩)) [])⟩,
              ⟨none, some 27, .p (.mv (.s 7))⟩,
              ⟨none, some 28, .p (.idx (.s 27) (.c (.int .i64 0)) none 1)⟩,
              ⟨none, some 29, .r (.ld (.s 28) none)⟩,
              ⟨none, some 30, .e (.call (.c (.func (.func 38) ⟨[]⟩ ⟨[]⟩)) [.s 26, .s 29])⟩,
              ⟨none, some 8, .p (.mv (.s 30))⟩])] (.one .nil))
          (.seq
            (.join [36] [31, 32, 33, 34, 35]
              (.ops [
                  (none, [⟨none, some 31, .p (.mv (.s 8))⟩,
                  ⟨none, some 32, .p (.bin .lss (.s 31) (.c (.int .i64 0)))⟩,
                  ⟨none, some 33, .p (.mv (.s 32))⟩]),
                  (some (33, false), [⟨none, some 34, .p (.mv (.s 7))⟩,
                  ⟨none, some 35, .e (.call (.c (.func (.func 39) ⟨[]⟩ ⟨[]⟩)) [.s 34, .c (.string ⟨#[]⟩)])⟩]),
                  (none, [⟨none, some 36, .p (.pick (.s 33) (.c (.bool true)) (.s 35))⟩])] (.one (.tst (.one .nil) (.one .nil))))
              (.cond (.s 36)
                (.seq
                  (.ops [
                      (none, [⟨none, some 37, .p (.build [.int .i64 0, .slice none 0 0, .slice none 0 0] [(0, 1), (1, 1), (2, 1)] [])⟩,
                      ⟨none, none, .e (.st (.s 4) (.s 37) 3)⟩,
                      ⟨none, some 5, .p (.mv (.c (.int .i64 15)))⟩])] (.one .nil))
                  .ret)
                .skip))
            (.seq
              (.ops [
                  (none, [⟨none, some 38, .a (.mmap none)⟩,
                  ⟨none, some 9, .a (.alloc [.map none])⟩,
                  ⟨none, none, .e (.st (.s 9) (.s 38) 1)⟩])] (.one .nil))
              (.seq
                (.seq
                  (.ops [
                      (none, [⟨none, some 39, .p (.mv (.s 0))⟩,
                      ⟨none, some 40, .r (.len (.s 39) 0)⟩,
                      ⟨none, some 41, .p (.mv (.c (.int .i64 0)))⟩])] (.one .nil))
                  (.block 0
                    (.loop [41] [10, 11, 42, 43, 44, 45, 46, 47, 48, 49]
                      (.seq
                        (.ops [
                            (none, [⟨none, some 42, .p (.bin .lss (.s 41) (.s 40))⟩])] (.one .nil))
                        (.seq
                          (.cond (.s 42)
                            .skip
                            (.exit 0))
                          (.seq
                            (.block 1
                              (.seq
                                (.ops [
                                    (none, [⟨none, some 43, .p (.mv (.s 41))⟩,
                                    ⟨none, some 44, .p (.idx (.s 39) (.s 41) none 1)⟩,
                                    ⟨none, some 45, .r (.ld (.s 44) none)⟩,
                                    ⟨none, some 10, .p (.mv (.s 43))⟩,
                                    ⟨none, some 11, .p (.mv (.s 45))⟩])] (.one .nil))
                                (.ops [
                                    (none, [⟨none, some 46, .r (.ld (.s 9) none)⟩,
                                    ⟨none, some 47, .p (.mv (.s 11))⟩,
                                    ⟨none, some 48, .p (.mv (.s 10))⟩,
                                    ⟨none, none, .e (.upd .string (.s 46) (.s 47) (.s 48))⟩])] (.one .nil))))
                            (.ops [
                                (none, [⟨none, some 49, .p (.bin .add (.s 41) (.c (.int .i64 1)))⟩,
                                ⟨none, some 41, .p (.mv (.s 49))⟩])] (.one .nil))))))))
                (.seq
                  (.ops [
                      (none, [⟨none, some 50, .p (.mkf (.func 40) [] [.s 9])⟩,
                      ⟨none, some 12, .p (.mv (.s 50))⟩])] (.one .nil))
                  (.seq
                    (.ops [
                        (none, [⟨none, some 51, .a (.bsl 0 1 [.int .i64 0] [])⟩,
                        ⟨none, some 13, .p (.mv (.s 51))⟩])] (.one .nil))
                    (.seq
                      (.seq
                        (.ops [
                            (none, [⟨none, some 52, .p (.mv (.s 7))⟩,
                            ⟨none, some 53, .r (.sl (.s 52) 1 (some (.c (.int .i64 1))) none none)⟩,
                            ⟨none, some 54, .r (.len (.s 53) 0)⟩,
                            ⟨none, some 55, .p (.mv (.c (.int .i64 0)))⟩])] (.one .nil))
                        (.block 2
                          (.loop [13, 55] [5, 15, 16, 17, 56, 57, 58, 59, 60, 61, 62, 63, 64, 65, 66, 67, 68, 69, 70, 71, 72]
                            (.seq
                              (.ops [
                                  (none, [⟨none, some 56, .p (.bin .lss (.s 55) (.s 54))⟩])] (.one .nil))
                              (.seq
                                (.cond (.s 56)
                                  .skip
                                  (.exit 2))
                                (.seq
                                  (.block 3
                                    (.seq
                                      (.ops [
                                          (none, [⟨none, some 57, .p (.idx (.s 53) (.s 55) none 1)⟩,
                                          ⟨none, some 58, .r (.ld (.s 57) none)⟩,
                                          ⟨none, some 15, .p (.mv (.s 58))⟩])] (.one .nil))
                                      (.seq
                                        (.ops [
                                            (none, [⟨none, some 60, .p (.mv (.s 12))⟩,
                                            ⟨none, some 61, .p (.mv (.s 15))⟩,
                                            ⟨none, some 62, .e (.call (.s 60) [.s 61])⟩,
                                            ⟨none, some 59, .p (.mv (.s 62))⟩,
                                            ⟨none, some 63, .p (.ext (.s 59) 0)⟩,
                                            ⟨none, some 64, .p (.ext (.s 59) 1)⟩,
                                            ⟨none, some 16, .p (.mv (.s 63))⟩,
                                            ⟨none, some 17, .p (.mv (.s 64))⟩])] (.one .nil))
                                        (.seq
                                          (.seq
                                            (.ops [
                                                (none, [⟨none, some 65, .p (.mv (.s 17))⟩,
                                                ⟨none, some 66, .p (.un .not (.s 65))⟩])] (.one .nil))
                                            (.cond (.s 66)
                                              (.seq
                                                (.ops [
                                                    (none, [⟨none, some 67, .p (.build [.int .i64 0, .slice none 0 0, .slice none 0 0] [(0, 1), (1, 1), (2, 1)] [])⟩,
                                                    ⟨none, none, .e (.st (.s 4) (.s 67) 3)⟩,
                                                    ⟨none, some 5, .p (.mv (.c (.int .i64 7)))⟩])] (.one .nil))
                                                .ret)
                                              .skip))
                                          (.ops [
                                              (none, [⟨none, some 68, .p (.mv (.s 13))⟩,
                                              ⟨none, some 69, .p (.mv (.s 16))⟩,
                                              ⟨none, some 70, .a (.bsl 1 1 [.int .i64 0] [(0, .s 69)])⟩,
                                              ⟨none, some 71, .e (.app (.s 68) (.s 70) 1 8)⟩,
                                              ⟨none, some 13, .p (.mv (.s 71))⟩])] (.one .nil))))))
                                  (.ops [
                                      (none, [⟨none, some 72, .p (.bin .add (.s 55) (.c (.int .i64 1)))⟩,
                                      ⟨none, some 55, .p (.mv (.s 72))⟩])] (.one .nil))))))))
                      (.seq
                        (.seq
                          (.ops [
                              (none, [⟨none, some 73, .p (.mv (.s 8))⟩,
                              ⟨none, some 74, .p (.bin .eql (.s 73) (.c (.int .i64 0)))⟩])] (.one .nil))
                          (.cond (.s 74)
                            (.seq
                              (.ops [
                                  (none, [⟨none, some 75, .p (.mv (.s 8))⟩,
                                  ⟨none, some 76, .p (.mv (.s 13))⟩,
                                  ⟨none, some 77, .p (.build [.int .i64 0, .slice none 0 0, .slice none 0 0] [(0, 1), (1, 1), (2, 1)] [(0, .s 75), (1, .s 76)])⟩,
                                  ⟨none, none, .e (.st (.s 4) (.s 77) 3)⟩,
                                  ⟨none, some 5, .p (.mv (.c (.int .i64 0)))⟩])] (.one .nil))
                              .ret)
                            .skip))
                        (.seq
                          (.ops [
                              (none, [⟨none, some 78, .p (.mv (.s 8))⟩,
                              ⟨none, some 79, .p (.mv (.s 13))⟩,
                              ⟨none, some 80, .p (.build [.int .i64 0, .slice none 0 0, .slice none 0 0] [(0, 1), (1, 1), (2, 1)] [(0, .s 78), (2, .s 79)])⟩,
                              ⟨none, none, .e (.st (.s 4) (.s 80) 3)⟩,
                              ⟨none, some 5, .p (.mv (.c (.int .i64 0)))⟩])] (.one .nil))
                          .ret))))))))))))
theorem cfn15 : cfn Tryz.prog 15 = some ⟨81, 7, d15.erase, [(.s 4, some (some 3)), (.s 5, none)]⟩ := by kernel_rfl
theorem ok15 : d15.ok 81 7 = true := by kernel_rfl
noncomputable def F15 (a0 a1 : Value) (H : Heap) (nx : Nat) (k : EP) : Prop :=
  wNew (.cells [.int .i64 0, .slice none 0 0, .slice none 0 0] 0) .ptr H nx fun t4_1 H1 nx1 =>
  wCall Tryz.prog 34 [a0] H1 nx1 fun t19_2 H2 nx2 =>
  wBin .neq t19_2 (.int .i64 0) fun t21_3 =>
  wIf t21_3 (
    wBuild [.int .i64 0, .slice none 0 0, .slice none 0 0] [(0, 1), (1, 1), (2, 1)] [] fun t22_4 =>
    wSt t4_1 t22_4 3 H2 fun H3 =>
    wLd t4_1 (some 3) H3 fun tr_5 =>
    forceV (.tuple ⟨[tr_5, t19_2]⟩) fun tv_6 => k tv_6 H3 nx2) (
    wCall Tryz.prog 37 [a1, (.string ⟨#[32]⟩)] H2 nx2 fun t25_7 H4 nx4 =>
    forceN (nx4 + 6) fun nx5 =>
    wCall Tryz.prog 35 [] H4 nx5 fun t26_8 H6 nx6 =>
    wIdx t25_7 (.int .i64 0) none 1 fun t28_9 =>
    wLd t28_9 none H6 fun t29_10 =>
    wCall Tryz.prog 38 [t26_8, t29_10] H6 nx6 fun t30_11 H7 nx7 =>
    (((((True) ∧ ((wLd t28_9 none H6 fun tq_12 => tq_12 = t29_10) ∧ ((wLd t28_9 none H4 fun tq_13 => tq_13 = t29_10) ∧ True))) ∧ True)) ∧ (
      wJoin (fun tj_14 =>
        wBin .lss t30_11 (.int .i64 0) fun t32_16 =>
        wGuard false t32_16 (
          wCall Tryz.prog 39 [t25_7, (.string ⟨#[]⟩)] H7 nx7 fun t35_17 H9 nx9 =>
          tj_14 [t35_17] H9 nx9) (
          tj_14 [(.bool true)] H7 nx7)) (fun tL_15 H8 nx8 =>
        wIf (tL_15.getD 0 undef) (
          wBuild [.int .i64 0, .slice none 0 0, .slice none 0 0] [(0, 1), (1, 1), (2, 1)] [] fun t37_18 =>
          wSt t4_1 t37_18 3 H8 fun H10 =>
          wLd t4_1 (some 3) H10 fun tr_19 =>
          forceV (.tuple ⟨[tr_19, (.int .i64 15)]⟩) fun tv_20 => k tv_20 H10 nx8) (
          dMmap none <| wNew (.map [] 0) .map H8 nx8 fun t38_21 H11 nx11 =>
          wNew (.cells [.map none] 0) .ptr H11 nx11 fun t9_22 H12 nx12 =>
          wSt t9_22 t38_21 1 H12 fun H13 =>
          wLen a0 0 H13 fun t40_23 =>
          wLoop (fun tih_24 tL_25 H14 nx14 =>
            wBin .lss (tL_25.getD 0 undef) t40_23 fun t42_26 =>
            wIf t42_26 (
              wIdx a0 (tL_25.getD 0 undef) none 1 fun t44_27 =>
              wLd t44_27 none H14 fun t45_28 =>
              wLd t9_22 none H14 fun t46_29 =>
              wUpd .string t46_29 t45_28 (tL_25.getD 0 undef) H14 nx14 fun u_30 H15 nx15 =>
              wBin .add (tL_25.getD 0 undef) (.int .i64 1) fun t49_31 =>
              tih_24 [t49_31] H15 nx15) (
              dBsl 0 1 [.int .i64 0] [] fun tc_32 => wNew (.cells tc_32 0) (.slice 0 0) H14 nx14 fun t51_33 H16 nx16 =>
              wSl t25_7 1 (some (.int .i64 1)) none none H16 fun t53_34 =>
              wLen t53_34 0 H16 fun t54_35 =>
              wLoop (fun tih_36 tL_37 H17 nx17 =>
                wBin .lss (tL_37.getD 1 undef) t54_35 fun t56_38 =>
                wIf t56_38 (
                  wIdx t53_34 (tL_37.getD 1 undef) none 1 fun t57_39 =>
                  wLd t57_39 none H17 fun t58_40 =>
                  wCallV Tryz.prog (.func (.func 40) ⟨[]⟩ ⟨[t9_22]⟩) [t58_40] H17 nx17 fun t62_41 H18 nx18 =>
                  wExt t62_41 0 fun t63_42 =>
                  wExt t62_41 1 fun t64_43 =>
                  wUn .not t64_43 fun t66_44 =>
                  wIf t66_44 (
                    wBuild [.int .i64 0, .slice none 0 0, .slice none 0 0] [(0, 1), (1, 1), (2, 1)] [] fun t67_45 =>
                    wSt t4_1 t67_45 3 H18 fun H19 =>
                    wLd t4_1 (some 3) H19 fun tr_46 =>
                    forceV (.tuple ⟨[tr_46, (.int .i64 7)]⟩) fun tv_47 => k tv_47 H19 nx18) (
                    dBsl 1 1 [.int .i64 0] [(0, t63_42)] fun tc_48 => wNew (.cells tc_48 0) (.slice 1 1) H18 nx18 fun t70_49 H20 nx20 =>
                    wApp (tL_37.getD 0 undef) t70_49 1 8 H20 nx20 fun t71_50 H21 nx21 =>
                    wBin .add (tL_37.getD 1 undef) (.int .i64 1) fun t72_51 =>
                    tih_36 [t71_50, t72_51] H21 nx21)) (
                  wBin .eql t30_11 (.int .i64 0) fun t74_52 =>
                  wIf t74_52 (
                    wBuild [.int .i64 0, .slice none 0 0, .slice none 0 0] [(0, 1), (1, 1), (2, 1)] [(0, t30_11), (1, (tL_37.getD 0 undef))] fun t77_53 =>
                    wSt t4_1 t77_53 3 H17 fun H22 =>
                    wLd t4_1 (some 3) H22 fun tr_54 =>
                    forceV (.tuple ⟨[tr_54, (.int .i64 0)]⟩) fun tv_55 => k tv_55 H22 nx17) (
                    wBuild [.int .i64 0, .slice none 0 0, .slice none 0 0] [(0, 1), (1, 1), (2, 1)] [(0, t30_11), (2, (tL_37.getD 0 undef))] fun t80_56 =>
                    wSt t4_1 t80_56 3 H17 fun H23 =>
                    wLd t4_1 (some 3) H23 fun tr_57 =>
                    forceV (.tuple ⟨[tr_57, (.int .i64 0)]⟩) fun tv_58 => k tv_58 H23 nx17))) [t51_33, (.int .i64 0)] H16 nx16)) [(.int .i64 0)] H13 nx12)))) ∨ False)
theorem eq15 (a0 a1 : Value) (H : Heap) (nx : Nat) (k : EP) : wBody Tryz.prog 81 7 d15 [(.s 4, some (some 3)), (.s 5, none)] [a0, a1] H nx k = F15 a0 a1 H nx k := by kernel_rfl
theorem spec15 {a0 a1 : Value} {H : Heap} {nx : Nat} {k : EP} (h : F15 a0 a1 H nx k) : Ans Tryz.prog 15 [a0, a1] H nx k :=
  spec_of_body mixed namesOK cfn15 ok15 (by simp) ((eq15 a0 a1 H nx k).symm ▸ h)

/-! 7: ordinal/ordinallaw56.awake -/
def d7 : D :=
  (.seq
    (.ops [
        (none, [⟨none, some 0, .p (.mv (.c (.bool false)))⟩])] (.one .nil))
    (.seq
      (.ops [
          (none, [⟨none, some 8, .a (.bsl 3 1 [.string ⟨#[]⟩] [(0, .c (.string ⟨#[120]⟩)), (1, .c (.string ⟨#[121]⟩)), (2, .c (.string ⟨#[122]⟩))])⟩,
          ⟨none, some 1, .p (.mv (.s 8))⟩])] (.one .nil))
      (.seq
        (.ops [
            (none, [⟨none, some 10, .p (.mv (.s 1))⟩,
            ⟨none, some 11, .a (.bsl 3 1 [.int .i64 0] [(0, .c (.int .i64 0)), (1, .c (.int .i64 1)), (2, .c (.int .i64 2))])⟩,
            ⟨none, some 12, .p (.build [.int .i64 0, .slice none 0 0, .slice none 0 0] [(0, 1), (1, 1), (2, 1)] [(0, .c (.int .i64 3)), (2, .s 11)])⟩,
            ⟨none, some 13, .e (.call (.c (.func (.func 14) ⟨[]⟩ ⟨[]⟩)) [.s 10, .s 12])⟩,
            ⟨none, some 9, .p (.mv (.s 13))⟩,
            ⟨none, some 14, .p (.ext (.s 9) 0)⟩,
            ⟨none, some 15, .p (.ext (.s 9) 1)⟩,
            ⟨none, some 2, .p (.mv (.s 14))⟩,
            ⟨none, some 3, .p (.mv (.s 15))⟩])] (.one .nil))
        (.seq
          (.ops [
              (none, [⟨none, some 17, .p (.mv (.s 1))⟩,
              ⟨none, some 18, .p (.build [.int .i64 0, .slice none 0 0, .slice none 0 0] [(0, 1), (1, 1), (2, 1)] [])⟩,
              ⟨none, some 19, .e (.call (.c (.func (.func 14) ⟨[]⟩ ⟨[]⟩)) [.s 17, .s 18])⟩,
              ⟨none, some 16, .p (.mv (.s 19))⟩,
              ⟨none, some 20, .p (.ext (.s 16) 0)⟩,
              ⟨none, some 21, .p (.ext (.s 16) 1)⟩,
              ⟨none, some 4, .p (.mv (.s 20))⟩,
              ⟨none, some 5, .p (.mv (.s 21))⟩])] (.one .nil))
          (.seq
            (.ops [
                (none, [⟨none, some 23, .p (.mv (.s 1))⟩,
                ⟨none, some 24, .e (.call (.c (.func (.func 15) ⟨[]⟩ ⟨[]⟩)) [.s 23, .c (.string ⟨#[112, 97, 116, 104, 32, 122, 32, 120]⟩)])⟩,
                ⟨none, some 22, .p (.mv (.s 24))⟩,
                ⟨none, some 25, .p (.ext (.s 22) 0)⟩,
                ⟨none, some 26, .p (.ext (.s 22) 1)⟩,
                ⟨none, some 6, .a (.alloc [.int .i64 0, .slice none 0 0, .slice none 0 0])⟩,
                ⟨none, none, .e (.st (.s 6) (.s 25) 3)⟩,
                ⟨none, some 7, .p (.mv (.s 26))⟩])] (.one .nil))
            (.seq
              (.ops [
                  (none, [⟨none, some 27, .p (.mv (.s 3))⟩,
                  ⟨none, some 28, .p (.bin .eql (.s 27) (.c (.int .i64 0)))⟩,
                  ⟨none, some 29, .p (.mv (.s 28))⟩]),
                  (some (29, true), [⟨none, some 30, .p (.mv (.s 5))⟩,
                  ⟨none, some 31, .p (.bin .eql (.s 30) (.c (.int .i64 0)))⟩]),
                  (none, [⟨none, some 32, .p (.pick (.s 29) (.s 31) (.c (.bool false)))⟩,
                  ⟨none, some 33, .p (.mv (.s 32))⟩]),
                  (some (33, true), [⟨none, some 34, .p (.mv (.s 7))⟩,
                  ⟨none, some 35, .p (.bin .eql (.s 34) (.c (.int .i64 0)))⟩]),
                  (none, [⟨none, some 36, .p (.pick (.s 33) (.s 35) (.c (.bool false)))⟩,
                  ⟨none, some 37, .p (.mv (.s 36))⟩]),
                  (some (37, true), [⟨none, some 38, .p (.mv (.s 2))⟩,
                  ⟨none, some 39, .p (.bin .eql (.s 38) (.c (.string ⟨#[116, 114, 105, 111, 32, 120, 32, 121, 32, 122]⟩)))⟩]),
                  (none, [⟨none, some 40, .p (.pick (.s 37) (.s 39) (.c (.bool false)))⟩,
                  ⟨none, some 41, .p (.mv (.s 40))⟩]),
                  (some (41, true), [⟨none, some 42, .p (.mv (.s 4))⟩,
                  ⟨none, some 43, .p (.bin .eql (.s 42) (.c (.string ⟨#[97, 99, 99, 101, 112, 116, 101, 100]⟩)))⟩]),
                  (none, [⟨none, some 44, .p (.pick (.s 41) (.s 43) (.c (.bool false)))⟩,
                  ⟨none, some 45, .p (.mv (.s 44))⟩]),
                  (some (45, true), [⟨none, some 46, .p (.fld (.s 6) 0)⟩,
                  ⟨none, some 47, .r (.ld (.s 46) none)⟩,
                  ⟨none, some 48, .p (.bin .eql (.s 47) (.c (.int .i64 2)))⟩]),
                  (none, [⟨none, some 49, .p (.pick (.s 45) (.s 48) (.c (.bool false)))⟩,
                  ⟨none, some 50, .p (.mv (.s 49))⟩]),
                  (some (50, true), [⟨none, some 51, .p (.fld (.s 6) 2)⟩,
                  ⟨none, some 52, .r (.ld (.s 51) none)⟩,
                  ⟨none, some 53, .a (.bsl 2 1 [.int .i64 0] [(0, .c (.int .i64 2)), (1, .c (.int .i64 0))])⟩,
                  ⟨none, some 54, .e (.call (.c (.func (.func 16) ⟨[]⟩ ⟨[]⟩)) [.s 52, .s 53])⟩]),
                  (none, [⟨none, some 55, .p (.pick (.s 50) (.s 54) (.c (.bool false)))⟩,
                  ⟨none, some 56, .p (.mv (.s 55))⟩]),
                  (some (56, true), [⟨none, some 57, .p (.fld (.s 6) 1)⟩,
                  ⟨none, some 58, .r (.ld (.s 57) none)⟩,
                  ⟨none, some 59, .r (.len (.s 58) 0)⟩,
                  ⟨none, some 60, .p (.bin .eql (.s 59) (.c (.int .i64 0)))⟩]),
                  (none, [⟨none, some 61, .p (.pick (.s 56) (.s 60) (.c (.bool false)))⟩,
                  ⟨none, some 0, .p (.mv (.s 61))⟩])] (.one (.tst (.one (.tst (.one (.tst (.one (.tst (.one (.tst (.one (.tst (.one (.tst (.one .nil) (.one .nil))) (.one (.one (.one .nil))))) (.one (.one (.one (.one (.one .nil))))))) (.one (.one (.one (.one (.one (.one (.one .nil))))))))) (.one (.one (.one (.one (.one (.one (.one (.one (.one .nil))))))))))) (.one (.one (.one (.one (.one (.one (.one (.one (.one (.one (.one .nil))))))))))))) (.one (.one (.one (.one (.one (.one (.one (.one (.one (.one (.one (.one (.one .nil))))))))))))))))
              .ret))))))
theorem cfn7 : cfn Tryz.prog 7 = some ⟨62, 6, d7.erase, [(.s 0, none)]⟩ := by kernel_rfl
theorem ok7 : d7.ok 62 6 = true := by kernel_rfl
noncomputable def F7 (H : Heap) (nx : Nat) (k : EP) : Prop :=
  dBsl 3 1 [.string ⟨#[]⟩] [(0, (.string ⟨#[120]⟩)), (1, (.string ⟨#[121]⟩)), (2, (.string ⟨#[122]⟩))] fun tc_1 => wNew (.cells tc_1 0) (.slice 3 3) H nx fun t8_2 H1 nx1 =>
  dBsl 3 1 [.int .i64 0] [(0, (.int .i64 0)), (1, (.int .i64 1)), (2, (.int .i64 2))] fun tc_3 => wNew (.cells tc_3 0) (.slice 3 3) H1 nx1 fun t11_4 H2 nx2 =>
  wBuild [.int .i64 0, .slice none 0 0, .slice none 0 0] [(0, 1), (1, 1), (2, 1)] [(0, (.int .i64 3)), (2, t11_4)] fun t12_5 =>
  wCall Tryz.prog 14 [t8_2, t12_5] H2 nx2 fun t13_6 H3 nx3 =>
  wExt t13_6 0 fun t14_7 =>
  wExt t13_6 1 fun t15_8 =>
  wBuild [.int .i64 0, .slice none 0 0, .slice none 0 0] [(0, 1), (1, 1), (2, 1)] [] fun t18_9 =>
  wCall Tryz.prog 14 [t8_2, t18_9] H3 nx3 fun t19_10 H4 nx4 =>
  wExt t19_10 0 fun t20_11 =>
  wExt t19_10 1 fun t21_12 =>
  wCall Tryz.prog 15 [t8_2, (.string ⟨#[112, 97, 116, 104, 32, 122, 32, 120]⟩)] H4 nx4 fun t24_13 H5 nx5 =>
  wExt t24_13 0 fun t25_14 =>
  wExt t24_13 1 fun t26_15 =>
  wNew (.cells [.int .i64 0, .slice none 0 0, .slice none 0 0] 0) .ptr H5 nx5 fun t6_16 H6 nx6 =>
  wSt t6_16 t25_14 3 H6 fun H7 =>
  wBin .eql t15_8 (.int .i64 0) fun t28_17 =>
  wGuard true t28_17 (
    wBin .eql t21_12 (.int .i64 0) fun t31_18 =>
    wGuard true t31_18 (
      wBin .eql t26_15 (.int .i64 0) fun t35_19 =>
      wGuard true t35_19 (
        wBin .eql t14_7 (.string ⟨#[116, 114, 105, 111, 32, 120, 32, 121, 32, 122]⟩) fun t39_20 =>
        wGuard true t39_20 (
          wBin .eql t20_11 (.string ⟨#[97, 99, 99, 101, 112, 116, 101, 100]⟩) fun t43_21 =>
          wGuard true t43_21 (
            wFld t6_16 0 fun t46_22 =>
            wLd t46_22 none H7 fun t47_23 =>
            wBin .eql t47_23 (.int .i64 2) fun t48_24 =>
            wGuard true t48_24 (
              wFld t6_16 2 fun t51_25 =>
              wLd t51_25 none H7 fun t52_26 =>
              dBsl 2 1 [.int .i64 0] [(0, (.int .i64 2)), (1, (.int .i64 0))] fun tc_27 => wNew (.cells tc_27 0) (.slice 2 2) H7 nx6 fun t53_28 H8 nx8 =>
              wCall Tryz.prog 16 [t52_26, t53_28] H8 nx8 fun t54_29 H9 nx9 =>
              wGuard true t54_29 (
                wFld t6_16 1 fun t57_30 =>
                wLd t57_30 none H9 fun t58_31 =>
                wLen t58_31 0 H9 fun t59_32 =>
                wBin .eql t59_32 (.int .i64 0) fun t60_33 =>
                forceV t60_33 fun tv_34 => k tv_34 H9 nx9) (
                forceV (.bool false) fun tv_35 => k tv_35 H9 nx9)) (
                forceV (.bool false) fun tv_36 => k tv_36 H7 nx6)) (
                forceV (.bool false) fun tv_37 => k tv_37 H7 nx6)) (
                forceV (.bool false) fun tv_38 => k tv_38 H7 nx6)) (
                forceV (.bool false) fun tv_39 => k tv_39 H7 nx6)) (
                forceV (.bool false) fun tv_40 => k tv_40 H7 nx6)) (
                forceV (.bool false) fun tv_41 => k tv_41 H7 nx6)
theorem eq7 (H : Heap) (nx : Nat) (k : EP) : wBody Tryz.prog 62 6 d7 [(.s 0, none)] [] H nx k = F7  H nx k := by kernel_rfl
theorem spec7 {H : Heap} {nx : Nat} {k : EP} (h : F7  H nx k) : Ans Tryz.prog 7 [] H nx k :=
  spec_of_body mixed namesOK cfn7 ok7 (by simp) ((eq7  H nx k).symm ▸ h)

end Go.Proofs.YthbdeaeghipliaaGreatDoor
