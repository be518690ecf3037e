/-
  THE STATEMENT EliminationTrees: for every input the law returns true, and each argument reads behind the call as it did. No condition.
-/
import Derived.Test.YtaieijjfabbfeaaR1
import Derived.Test.YtaieijjfabbfeaaS10
namespace Go.Proofs.Ytaieijjfabbfeaa.eliminationTrees
open Go.ChangeShapes Go.WideShapes Go.ChangeAt Go.RowKit Go.Joins Go.Clo

set_option maxRecDepth 100000 in
theorem lifted (os : Os) (started : os.Started) (H : Type) (enc : TypeId × Value → H) :
    ReturnsInHanded {} Try.checked os 5 .any (Rows.eliminationTreesSpec.pre6 enc Try.prog Try.f5 Rows.eliminationTreesRow.domain false) (Rows.eliminationTreesSpec.post enc Try.prog Try.f5 false true false false) := by
  refine returnsInHanded_of_change (C := Try.checked) own started (by kernel_rfl) Try.func5
    (ChangeSpec.witness6 (enc := enc) (C := Try.checked) false ⟨#[], #[.agg #[.int .i64 0, .slice none 0 0], .int .i64 0, .slice none 0 0], []⟩ 8 (by kernel_rfl) (by kernel_rfl) (by kernel_rfl) (by kernel_rfl)) ?_
  intro W base args ds gs before hval0 hW hcnd _
  have hval : ∀ (j : Nat) t v, Try.f5.params[j]? = some t → args[j]? = some v → Value.okWide Try.prog W .any base t v := hval0
  have hW' := hW
  obtain ⟨p, q, hA0, hV, rfl, hfz, hnd⟩ := hW
  have hA : DataW.TrodAll enc Try.prog W 0 (fun _ => true) true Try.f5.params.toList args.toList ds p := hA0
  have hAll := hA
  rw [Try.params5] at hA hval
  obtain ⟨v0, vs0, d0, ds0, p0, q0, hargs, rfl, rfl, h0, r0⟩ := trodAll_cons hA
  obtain ⟨v1, vs1, d1, ds1, p1, q1, rfl, rfl, rfl, h1, r1⟩ := trodAll_cons r0
  obtain ⟨v2, vs2, d2, ds2, p2, q2, rfl, rfl, rfl, h2, r2⟩ := trodAll_cons r1
  obtain ⟨rfl, rfl, rfl⟩ := trodAll_nil r2
  obtain rfl : args = #[v0, v1, v2] := by cases args; simp_all
  obtain ⟨rfl, rfl⟩ := trodVars_none hV
  obtain ⟨N, A, len, cap, n0, y0, rfl, _, hok0, ht0⟩ := graph_open (hval 0 24 v0 rfl rfl) h0
  obtain ⟨free, rfl, rfl, rfl, _⟩ := open_int Try.underlying3 (hval 1 3 v1 rfl rfl) h1
  obtain ⟨B, lenB, capB, rfl⟩ := okWide_slice Try.underlying25 (hval 2 25 v2 rfl rfl)
  obtain ⟨F1, H1, nx1, A', es, hi1, hle1, hr1, hsm, hS, hE1⟩ := open_edges (In.start W) hok0 ht0
  obtain ⟨fuel2, ht2⟩ := h2
  obtain ⟨F2, H2, nx2, B', bs, hi2, hle2, hr2, hkey, hB, hE2⟩ := open_bags hi1 (okWide_value Try.underlying25 (hval 2 25 _ rfl rfl)) ht2
  have hvl : VL F2 [gv N A' es.length cap, .int .i64 free, .slice B' bs.length capB] [.agg #[.int .i64 N, .slice A len cap], .int .i64 free, .slice B lenB capB] :=
    .cons (VR.agg' (.cons (.int _ _) (.cons (hr1.mono hle2) .nil))) (.cons (.int _ _) (.cons hr2 .nil))
  refine (calls_of_ans (law5 N free A' es cap B' bs capB H2 nx2 (hS.ext hE2) hsm hB hkey) (fun _ _ _ h => h) hi2 hvl).mono fun e W' ⟨he, hb⟩ => ?_
  subst he
  refine ⟨_, rfl, law_post hW' rfl rfl rfl rfl (by kernel_rfl) ?_ hb hAll fun x hx => List.mem_append_left _ hx⟩
  rw [Try.params5]
  intro t ht
  simp only [List.mem_cons, List.not_mem_nil, or_false] at ht
  rcases ht with rfl | rfl | rfl <;> exact ⟨by kernel_rfl, of_decide_eq_true (by kernel_rfl)⟩

theorem over : Rows.eliminationTreesRow.holds Try.pinned (OpenSpec.ofChange Rows.eliminationTreesSpec) :=
  OpenClaim.holds_of_wide 5 Try.f5 rfl rfl rfl rfl rfl rfl rfl ⟨rfl, rfl, rfl, rfl, rfl⟩ rfl rfl rfl rfl rfl (by kernel_rfl) Try.func5 (by kernel_rfl)
    (of_decide_eq_true (by kernel_rfl)) (by unfold Func.isWrapper; first | (rw [if_pos (by decide +kernel)]; kernel_rfl) | (rw [if_neg (by decide +kernel)]; exact ⟨rfl, rfl⟩))
    (fun os started H enc _ => lifted os started H enc)

/-- THE STATEMENT -/
theorem proved : Rows.EliminationTreesSaid := over
end Go.Proofs.Ytaieijjfabbfeaa.eliminationTrees
