/-
  THE STATEMENT ExplainBack: for every input the law returns true, and each argument reads behind the call as it did (what the row lists of Go's tables is tied to the program's text). No condition.
-/
import Derived.Test.YtjpgddpobnjmkaaDoorK27
import Derived.Test.YtjpgddpobnjmkaaDoorTie
import Derived.Test.YtjpgddpobnjmkaaDoorCards
import Derived.SevenTiedAt
set_option linter.unusedSimpArgs false
set_option linter.unusedVariables false
set_option linter.unusedSectionVars false
namespace Go.Proofs.YtjpgddpobnjmkaaDoor.explainBack
open Go.ChangeShapes Go.WideShapes Go.ChangeAt Go.RowKit Go.Joins Go.Clo

set_option maxRecDepth 100000 in
theorem lifted (os : Os) (started : os.Started) (H : Type) (enc : TypeId × Value → H) :
    ReturnsInHanded {} Tryd.checked os 5 .any (fun w args => (Rows.explainBackSpec.pre enc Tryd.prog Tryd.f5 Rows.explainBackRow.domain false w args ∧ laidMetH Tryd.prog laid2 w) ∧ sizedMet enc Tryd.prog Tryd.f5 (OpenSpec.ofChange Rows.explainBackSpec) false w args)
      (Rows.explainBackSpec.post enc Tryd.prog Tryd.f5 false true false false) := by
  refine returnsInHanded_of_change_and (C := Tryd.checked) (X := fun w _ => laidMetH Tryd.prog laid2 w) (fun _ _ _ hh h => h.of_heap hh) own started (by kernel_rfl) Tryd.func5
    (ChangeSpec.witness_shaped (enc := enc) (C := Tryd.checked) (os := os) (X := fun w _ => laidMetH Tryd.prog laid2 w) false (World.laidAll Tryd.prog os laid2) #[.slice none 0 0, .agg #[.int .i64 0, .slice none 0 0, .slice none 0 0], .string ⟨#[]⟩] 8 (World.laidAll_os _ _ _)
      (shaped os) (by kernel_rfl) (by kernel_rfl) (by kernel_rfl) (met os _)) ?_
  intro W base args ds gs before hval0 hW _ hwt0 _ _
  have hval : ∀ (j : Nat) t v, Tryd.f5.params[j]? = some t → args[j]? = some v → Value.okWide Tryd.prog W .any base t v := hval0
  have hW' := hW
  obtain ⟨p, q, hA0, hV, rfl, _, _⟩ := hW
  have hA : DataW.TrodAll enc Tryd.prog W 0 (fun _ => true) true Tryd.f5.params.toList args.toList ds p := hA0
  have hAll := hA
  rw [Tryd.params5] at hA hval
  obtain ⟨v0, vs0, d0, ds0, p0, q0, hargs, rfl, rfl, h0, r0⟩ := trodAll_cons hA
  obtain ⟨v1, vs1, d1, ds1, p1, q1, rfl, rfl, rfl, h1, r1⟩ := trodAll_cons r0
  obtain ⟨v2, vs2, d2, ds2, p2, q2, rfl, rfl, rfl, h2, r2⟩ := trodAll_cons r1
  obtain ⟨rfl, rfl, rfl⟩ := trodAll_nil r2
  obtain rfl : args = #[v0, v1, v2] := by cases args; simp_all
  obtain ⟨rfl, rfl⟩ := trodVars_none hV
  have hwt : (DataW.weightsEach Tryd.prog [22, 25, 9] [d0, d1, d2]).all (· ≤ reachBytes) = true := by
    rw [Tryd.params5] at hwt0
    exact hwt0
  have hwt1 := List.all_eq_true.1 hwt
  obtain ⟨A, len, cap, rfl⟩ := okWide_slice Tryd.underlying22 (hval 0 22 v0 rfl rfl)
  obtain ⟨fuel0, ht0⟩ := h0
  obtain ⟨F1, H1, nx1, A', vs, hi1, hle1, hr1, hl1, hS, hE1, hA', hcap⟩ := open_names (In.start W) (okWide_value Tryd.underlying22 (hval 0 22 _ rfl rfl)) ht0
  have hb0 : len ≤ reachBytes := len_small Tryd.underlying22 (of_decide_eq_true (by kernel_rfl)) ht0 fun k hk => by simpa using hwt1 k (DataW.weights_mem_each (j := 0) rfl rfl k hk)
  have hR : reachBytes = 140737488351232 := rfl
  obtain ⟨K, P, Q, np, pc, nw, wc, n1, y0, y1, y2, rfl, rfl, hokP, hokQ, htP, htQ⟩ := verdict_open (hval 1 25 v1 rfl rfl) h1
  have hwv : ∀ k ∈ DataW.weightsEach Tryd.prog [3, 23, 23] [y0.1, y1.1, y2.1], k ≤ reachBytes := fun k hk => by simpa using hwt1 k (DataW.weights_mem_each (j := 1) rfl rfl k (by simpa [DataW.weights, Tryd.underlying25] using hk))
  have hb1 : np ≤ reachBytes := len_small Tryd.underlying23 (of_decide_eq_true (by kernel_rfl)) htP fun k hk => hwv k (DataW.weights_mem_each (j := 1) rfl rfl k hk)
  have hb2 : nw ≤ reachBytes := len_small Tryd.underlying23 (of_decide_eq_true (by kernel_rfl)) htQ fun k hk => hwv k (DataW.weights_mem_each (j := 2) rfl rfl k hk)
  obtain ⟨F2, H2, nx2, P', pl, hi2, hle2, hr2, hl2, hP, hE2⟩ := open_ints hi1 hokP htP
  obtain ⟨F3, H3, nx3, Q', ql, hi3, hle3, hr3, hl3, hQ, hE3⟩ := open_ints hi2 hokQ htQ
  obtain ⟨s, rfl, rfl, rfl, _⟩ := _root_.Go.ChangeMaps.open_string Tryd.underlying9 (hval 2 9 v2 rfl rfl) h2
  have hvl : VL F3 [.slice A' vs.length cap, .agg ⟨[.int .i64 K, .slice P' pl.length pc, .slice Q' ql.length wc]⟩, .string s] [.slice A len cap, .agg #[.int .i64 K, .slice P np pc, .slice Q nw wc], .string s] := .cons ((hr1.mono hle2).mono hle3) (.cons (VR.agg' (.cons (.int _ _) (.cons (hr2.mono hle3) (.cons hr3 .nil)))) (.cons (.string _) .nil))
  refine (calls_of_ans (law5 A' P' Q' vs K pl ql s cap pc wc H3 nx3 (hS.ext (hE2.trans hE3)) (hA'.ext (hE2.trans hE3)) hcap (hP.ext hE3) hQ (by omega) (by omega) (by omega)) (fun _ _ _ h => h) hi3 hvl).mono fun e W' ⟨he, hb⟩ => ?_
  subst he
  refine ⟨_, rfl, law_post hW' rfl rfl rfl rfl (by kernel_rfl) ?_ hb hAll fun x hx => List.mem_append_left _ hx⟩
  rw [Tryd.params5]
  intro t ht
  simp only [List.mem_cons, List.not_mem_nil, or_false] at ht
  rcases ht with rfl | rfl | rfl <;> exact ⟨by kernel_rfl, of_decide_eq_true (by kernel_rfl)⟩

theorem over : Rows.explainBackRow.holds Tryd.pinned (OpenSpec.ofChange Rows.explainBackSpec) :=
  OpenClaim.holds_of_wide 5 Tryd.f5 rfl rfl rfl rfl rfl rfl rfl ⟨rfl, rfl, rfl, rfl, rfl⟩ rfl rfl rfl rfl rfl (by kernel_rfl) Tryd.func5 (by kernel_rfl)
    (of_decide_eq_true (by kernel_rfl)) (by unfold Func.isWrapper; first | (rw [if_pos (by decide +kernel)]; kernel_rfl) | (rw [if_neg (by decide +kernel)]; exact ⟨rfl, rfl⟩))
    (fun os started H enc _ => lifted os started H enc)

/-- THE STATEMENT -/
theorem proved : Rows.ExplainBackCardSaid :=
  Claim7.holds_tied_plain_at .later [] [.data, .pinned] true (true, "22b0de2bb9ef110bc7b41132e248ba748cc2fb88b06483e76fa946cd6883fa20") false over (fun _ h => by cases h) (by kernel_rfl) (fun _ h => by cases h) explainBack_row_tie rfl ⟨rfl, rfl⟩ (by kernel_rfl) rfl
    (fun f fn hf hfn => by
      obtain rfl : f = 5 := Option.some.inj ((show Tryd.prog.funcNamed Rows.explainBackRow.func = some 5 by kernel_rfl).symm.trans hf) |>.symm
      obtain rfl : fn = Tryd.f5 := (Option.some.inj (Tryd.func5.symm.trans hfn)).symm
      exact ⟨by kernel_rfl, fun j t ht => by
        rw [Tryd.params5] at ht
        have hm : t ∈ [22, 25, 9] := by simpa using Array.mem_of_getElem? ht
        have hall : ([22, 25, 9].all fun u => !Tryd.prog.wantsStandIn u) = true := by kernel_rfl
        exact (show Tryd.prog.wantsStandIn t = false by simpa using List.all_eq_true.1 hall t hm)⟩)
    (by kernel_rfl)
end Go.Proofs.YtjpgddpobnjmkaaDoor.explainBack
