/-
  THE STATEMENT DichotomyChecks: for every input the law returns true, and each argument reads behind the call as it did (what the row lists of Go's tables is tied to the program's text). No condition.
-/
import Derived.Test.YtdecggbglnbhlaaGreatDoorK33
import Derived.Test.YtdecggbglnbhlaaGreatDoorK30
import Derived.Test.YtdecggbglnbhlaaGreatDoorTie
import Derived.Test.YtdecggbglnbhlaaGreatDoorCards
import Derived.SevenTiedAt
set_option linter.unusedSimpArgs false
set_option linter.unusedVariables false
set_option linter.unusedSectionVars false
namespace Go.Proofs.YtdecggbglnbhlaaGreatDoor.dichotomyChecks
open Go.ChangeShapes Go.WideShapes Go.ChangeAt Go.RowKit Go.Joins Go.Clo

set_option maxRecDepth 100000 in
theorem lifted (os : Os) (started : os.Started) (H : Type) (enc : TypeId × Value → H) :
    ReturnsInHanded {} Tryz.checked os 5 .any (fun w args => (Rows.dichotomyChecksSpec.pre enc Tryz.prog Tryz.f5 Rows.dichotomyChecksRow.domain false w args ∧ laidMetH Tryz.prog laid1 w) ∧ sizedMet enc Tryz.prog Tryz.f5 (OpenSpec.ofChange Rows.dichotomyChecksSpec) false w args)
      (Rows.dichotomyChecksSpec.post enc Tryz.prog Tryz.f5 false true false false) := by
  refine returnsInHanded_of_change_and (C := Tryz.checked) (X := fun w _ => laidMetH Tryz.prog laid1 w) (fun _ _ _ hh h => h.of_heap hh) own started (by kernel_rfl) Tryz.func5
    (ChangeSpec.witness_shaped (enc := enc) (C := Tryz.checked) (os := os) (X := fun w _ => laidMetH Tryz.prog laid1 w) false (World.laidAll Tryz.prog os laid1) #[.agg #[.int .i64 0, .slice none 0 0], .int .i64 0, .agg #[.int .i64 0, .slice none 0 0, .slice none 0 0]] 8 (World.laidAll_os _ _ _)
      (shaped os) (by kernel_rfl) (by kernel_rfl) (by kernel_rfl) (met os _)) ?_
  intro W base args ds gs before hval0 hW _ _ hlaid _
  have hval : ∀ (j : Nat) t v, Tryz.f5.params[j]? = some t → args[j]? = some v → Value.okWide Tryz.prog W .any base t v := hval0
  have hW' := hW
  obtain ⟨p, q, hA0, hV, rfl, _, _⟩ := hW
  have hA : DataW.TrodAll enc Tryz.prog W 0 (fun _ => true) true Tryz.f5.params.toList args.toList ds p := hA0
  have hAll := hA
  rw [Tryz.params5] at hA hval
  obtain ⟨v0, vs0, d0, ds0, p0, q0, hargs, rfl, rfl, h0, r0⟩ := trodAll_cons hA
  obtain ⟨v1, vs1, d1, ds1, p1, q1, rfl, rfl, rfl, h1, r1⟩ := trodAll_cons r0
  obtain ⟨v2, vs2, d2, ds2, p2, q2, rfl, rfl, rfl, h2, r2⟩ := trodAll_cons r1
  obtain ⟨rfl, rfl, rfl⟩ := trodAll_nil r2
  obtain rfl : args = #[v0, v1, v2] := by cases args; simp_all
  obtain ⟨rfl, rfl⟩ := trodVars_none hV
  obtain ⟨N, A, len, cap, n0, y0, rfl, _, hok0, ht0⟩ := graph_open (hval 0 24 v0 rfl rfl) h0
  obtain ⟨free, rfl, rfl, rfl, _⟩ := open_int Tryz.underlying3 (hval 1 3 v1 rfl rfl) h1
  obtain ⟨K, P, Q, np, pc, nw, wc, n2, y1, y2, rfl, hok1, hok2, ht1, ht2⟩ := verdict_open (hval 2 39 v2 rfl rfl) h2
  obtain ⟨F1, H1, nx1, A', es, hi1, hle1, hr1, hsm, hS, hE1, _⟩ := open_edges (In.start W (glw_of_laid hlaid)) hok0 ht0
  obtain ⟨F2, H2, nx2, P', l, hi2, hle2, hr2, hl2, hP, hE2, hP0⟩ := open_ints hi1 hok1 ht1
  obtain ⟨F3, H3, nx3, Q', w, hi3, hle3, hr3, hl3, hQ, hE3, _⟩ := open_ints hi2 hok2 ht2
  have hvl : VL F3 [gv N A' es.length cap, .int .i64 free, .agg ⟨[.int .i64 K, .slice P' l.length pc, .slice Q' w.length wc]⟩] [.agg #[.int .i64 N, .slice A len cap], .int .i64 free, .agg #[.int .i64 K, .slice P np pc, .slice Q nw wc]] :=
    .cons (VR.agg' (.cons (.int _ _) (.cons ((hr1.mono hle2).mono hle3) .nil))) (.cons (.int _ _) (.cons (VR.agg' (.cons (.int _ _) (.cons (hr2.mono hle3) (.cons hr3 .nil)))) .nil))
  refine (calls_of_ans (law5 N free K A' es cap P' l pc Q' w wc H3 nx3 ((hS.ext hE2).ext hE3) hsm (hP.ext hE3) (hP0.ext hE3) hQ) (fun _ _ _ h => h) hi3 hvl).mono fun e W' ⟨he, hb⟩ => ?_
  subst he
  refine ⟨_, rfl, law_post hW' rfl rfl rfl rfl (by kernel_rfl) ?_ hb hAll fun x hx => List.mem_append_left _ hx⟩
  rw [Tryz.params5]
  intro t ht
  simp only [List.mem_cons, List.not_mem_nil, or_false] at ht
  rcases ht with rfl | rfl | rfl <;> exact ⟨by kernel_rfl, of_decide_eq_true (by kernel_rfl)⟩

theorem over : Rows.dichotomyChecksRow.holds Tryz.pinned (OpenSpec.ofChange Rows.dichotomyChecksSpec) :=
  OpenClaim.holds_of_wide 5 Tryz.f5 rfl rfl rfl rfl rfl rfl rfl ⟨rfl, rfl, rfl, rfl, rfl⟩ rfl rfl rfl rfl rfl (by kernel_rfl) Tryz.func5 (by kernel_rfl)
    (of_decide_eq_true (by kernel_rfl)) (by unfold Func.isWrapper; first | (rw [if_pos (by decide +kernel)]; kernel_rfl) | (rw [if_neg (by decide +kernel)]; exact ⟨rfl, rfl⟩))
    (fun os started H enc _ => lifted os started H enc)

/-- THE STATEMENT -/
theorem proved : Rows.DichotomyChecksCardSaid :=
  Claim7.holds_tied_plain_at .later [] [.data] true (true, "a7fbca2c11946b2e6986c93eb12ab2228b83674011cbebb5383143851ba666c3") false over (fun _ h => by cases h) (by kernel_rfl) (fun _ h => by cases h) dichotomyChecks_row_tie rfl ⟨rfl, rfl⟩ (by kernel_rfl) rfl
    (fun f fn hf hfn => by
      obtain rfl : f = 5 := Option.some.inj ((show Tryz.prog.funcNamed Rows.dichotomyChecksRow.func = some 5 by kernel_rfl).symm.trans hf) |>.symm
      obtain rfl : fn = Tryz.f5 := (Option.some.inj (Tryz.func5.symm.trans hfn)).symm
      exact ⟨by kernel_rfl, fun j t ht => by
        rw [Tryz.params5] at ht
        have hm : t ∈ [24, 3, 39] := by simpa using Array.mem_of_getElem? ht
        have hall : ([24, 3, 39].all fun u => !Tryz.prog.wantsStandIn u) = true := by kernel_rfl
        exact (show Tryz.prog.wantsStandIn t = false by simpa using List.all_eq_true.1 hall t hm)⟩)
    (by kernel_rfl)
end Go.Proofs.YtdecggbglnbhlaaGreatDoor.dichotomyChecks
