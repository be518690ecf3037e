/-
  connex.walk at the one call that 'awake' comes to: it hands back a new slice with 0, 2, 1.
-/
import Derived.Test.YtdecggbglnbhlaaGreatDoorK10
import Derived.Test.YtdecggbglnbhlaaGreatDoorK31
import Derived.RangeFuncCalls
set_option linter.unusedSimpArgs false
set_option linter.unusedVariables false
set_option linter.unusedSectionVars false
namespace Go.Proofs.YtdecggbglnbhlaaGreatDoor
open Go.RowKit Go.Shelf Go.Clo

attribute [local go_sem] Oper.semAt_some

set_option maxRecDepth 100000 in
set_option maxHeartbeats 1000000 in
theorem back77_in (F : Fence) (n : Nat) (h : F.fn 77) (hro : F.round = none) (A : Option Addr) (m c : Nat) (w : World) : CallsIn F n Tryz.prog 77 #[.slice A m c] w fun e w' => e = .returned (.func (.func 92) #[] #[.pointer (some ⟨w.heap.size, 0, none⟩)]) ∧ w' = w.alloc (.cells #[.slice A m c] 22) := by
  refine callsIn_of_wp Tryz.func77 rfl h ?_ hro
  simp only [Tryz.ntmps77, List.size_toArray, List.length_cons, List.length_nil, Nat.reduceAdd, Nat.reduceSub, Array.replicate_succ, Array.replicate_zero, List.push_toArray, List.append_toArray, List.nil_append, List.cons_append]
  gi_wp2
  go_ret
  exact ⟨rfl, rfl⟩

theorem tz4b (l n : Nat) (w : World) (hc : w.cell? ⟨0, 3, none⟩ = some (.int .u8 2)) : CallsIn (Fence.wide.inRound l) n Tryz.prog 78 #[.int .u32 (bits .and .u32 4 4)] w fun e w' => e = .returned (.int .i64 2) ∧ w' = w := by
  have e : bits .and .u32 4 4 = 4 := by decide
  rw [e]
  exact CallsIn.inRound l (tz4_in Fence.wide n trivial rfl w hc)
theorem tz2b (l n : Nat) (w : World) (hc : w.cell? ⟨0, 1, none⟩ = some (.int .u8 1)) : CallsIn (Fence.wide.inRound l) n Tryz.prog 78 #[.int .u32 (bits .and .u32 2 3)] w fun e w' => e = .returned (.int .i64 1) ∧ w' = w := by
  have e : bits .and .u32 2 3 = 2 := by decide
  rw [e]
  exact CallsIn.inRound l (tz2_in Fence.wide n trivial rfl w hc)
def pathL : List Value := [.int .i64 0, .int .i64 2, .int .i64 1]
theorem info3 : (Tryz.prog.info? 3).map (fun i => (i.zero, i.size, i.bytes)) = some (some (.int .i64 0), 1, 8) := by kernel_rfl
theorem glw_tab {w : World} (h : GlW w) {i n : Nat} (hi : deB[i]? = some n) : w.cell? ⟨0, i, none⟩ = some (.int .u8 (n : Int)) :=
  (h _ (List.mem_singleton.2 rfl)).2 i _ (by simp [hi])

set_option maxRecDepth 100000 in
set_option maxHeartbeats 8000000 in
theorem walk_calls (w : World) (hg : GlW w) : Calls Tryz.prog 52 walkArgs.toArray w fun e W' => ∃ v, e = .returned v ∧ W'.ownsRow w.heap.size 3 1 v 3 [.int .i64 0, .int .i64 2, .int .i64 1] ∧ Below w.heap.size w W' := by
  refine callsIn_wide.1 (callsIn_of_wp_marks (n := 5) Tryz.func52 rfl trivial ?_ rfl)
  refine walk_pre w hg _ _ ?_
  rintro ⟨tmps, defers⟩ w' B0 o0 S os cs hd hsz h2 h5 h11 c0 c2 s0 s1 hgl hbe hB hS
  dsimp only at hd hsz h2 h5 h11
  subst hd
  obtain ⟨x0, x1, x2, x3, x4, x5, x6, x7, x8, x9, x10, x11, x12, x13, x14, x15, x16, x17, x18, x19, x20, x21, x22, x23, x24, x25, x26, x27, x28, x29, x30, x31, x32, x33, x34, x35, x36, x37, x38, x39, x40, x41, x42, x43, x44, x45, x46, x47, x48, x49, x50, x51, x52, x53, x54, x55, x56, x57, rfl⟩ := arr58 tmps hsz
  have h2' : x2 = .int .i64 0 := h2
  have h5' : x5 = .pointer (some ⟨B0, o0, none⟩) := h5
  have h11' : x11 = .slice (some ⟨S, os, none⟩) 2 cs := h11
  subst h2' h5' h11'
  clear h2 h5 h11 hsz
  obtain ⟨i0, hi, hz0, hz1, hz2⟩ := info_parts info3
  have hmax : (1000 : Nat) ≤ maxLen := by decide
  gi_wp2
  refine ⟨trivial, (back77_in Fence.wide 4 trivial rfl _ _ _ _).mono ?_⟩
  rintro e w'' ⟨rfl, rfl⟩
  gi_wp2
  have bO : Boxed (((w'.alloc (.cells #[.int .i64 0] 3)).alloc (.cells #[.slice (some ⟨w'.heap.size, 0, none⟩) 1 1] 27)).alloc (.cells #[.slice (some ⟨S, os, none⟩) 2 cs] 22)) (w'.heap.size + 1) 27 (.slice (some ⟨w'.heap.size, 0, none⟩) 1 1) := by
    have := (Boxed.new (w'.alloc (.cells #[.int .i64 0] 3)) 27 (.slice (some ⟨w'.heap.size, 0, none⟩) 1 1)).alloc (.cells #[.slice (some ⟨S, os, none⟩) 2 cs] 22)
    simpa using this
  have bC : Boxed (((w'.alloc (.cells #[.int .i64 0] 3)).alloc (.cells #[.slice (some ⟨w'.heap.size, 0, none⟩) 1 1] 27)).alloc (.cells #[.slice (some ⟨S, os, none⟩) 2 cs] 22)) (w'.heap.size + 2) 22 (.slice (some ⟨S, os, none⟩) 2 cs) := by
    have := Boxed.new ((w'.alloc (.cells #[.int .i64 0] 3)).alloc (.cells #[.slice (some ⟨w'.heap.size, 0, none⟩) 1 1] 27)) 22 (.slice (some ⟨S, os, none⟩) 2 cs)
    simpa using this
  have row0 : World.ownsRow (((w'.alloc (.cells #[.int .i64 0] 3)).alloc (.cells #[.slice (some ⟨w'.heap.size, 0, none⟩) 1 1] 27)).alloc (.cells #[.slice (some ⟨S, os, none⟩) 2 cs] 22)) w'.heap.size 3 1 (.slice (some ⟨w'.heap.size, 0, none⟩) 1 1) 1 [.int .i64 0] :=
    ((World.ownsRow_lit (base := w'.heap.size) (e := 3) (size := 1) w' #[.int .i64 0] 1 (Nat.le_refl _) (by decide) rfl).alloc _).alloc _
  have be0 : Below w'.heap.size w' (((w'.alloc (.cells #[.int .i64 0] 3)).alloc (.cells #[.slice (some ⟨w'.heap.size, 0, none⟩) 1 1] 27)).alloc (.cells #[.slice (some ⟨S, os, none⟩) 2 cs] 22)) :=
    (((Below.refl _ w').alloc (Nat.le_refl _) _).alloc (by simp) _).alloc (by simp; omega) _
  have hsz : (((w'.alloc (.cells #[.int .i64 0] 3)).alloc (.cells #[.slice (some ⟨w'.heap.size, 0, none⟩) 1 1] 27)).alloc (.cells #[.slice (some ⟨S, os, none⟩) 2 cs] 22)).heap.size = w'.heap.size + 3 := by simp
  have step : ∀ (k : Nat) (W w1 : World) (v v' : Value) (tmp : Obj), Boxed W (w'.heap.size + 1) 27 v → W.ownsRow w'.heap.size 3 1 v (k + 1) (pathL.take (k + 1)) → Boxed W (w'.heap.size + 2) 22 (.slice (some ⟨S, os, none⟩) 2 cs) → Below w'.heap.size w' W →
      w1.ownsRow w'.heap.size 3 1 v' (k + 1 + 1) (pathL.take (k + 1 + 1)) → (W.alloc tmp).grownBy w1 v.ownBlock →
      KeepsFrom (w'.heap.size + 3) W (w1.setCell ⟨w'.heap.size + 1, 0, none⟩ v') ∧ (∃ v, Boxed (w1.setCell ⟨w'.heap.size + 1, 0, none⟩ v') (w'.heap.size + 1) 27 v ∧ (w1.setCell ⟨w'.heap.size + 1, 0, none⟩ v').ownsRow w'.heap.size 3 1 v (k + 1 + 1) (pathL.take (k + 1 + 1)) ∧ True) ∧ Boxed (w1.setCell ⟨w'.heap.size + 1, 0, none⟩ v') (w'.heap.size + 2) 22 (.slice (some ⟨S, os, none⟩) 2 cs) ∧ Below w'.heap.size w' (w1.setCell ⟨w'.heap.size + 1, 0, none⟩ v') ∧ Boxed w1 (w'.heap.size + 1) 27 v := by
    intro k W w1 v v' tmp hv hrow hC hB hown' hgrow
    obtain ⟨hv1, hv2, hr2, hk2, hb2⟩ := hv.appended (by decide) hrow hB.size (by omega) hown' hgrow
    refine ⟨hk2.from _, ⟨_, hv2, hr2, trivial⟩, ?_, hB.trans hb2, hv1⟩
    exact ((hC.alloc tmp).kept hgrow (hC.not_row (by decide) hrow)).kept (grownBy_setCell' w1 (w'.heap.size + 1) v') (by simp)
  refine rangeFunc_steps (N := 2) (enc := fun k => #[.int .i64 (at2 k).1, .int .u32 (at2 k).2]) rfl (by omega) (gf := 92) (lb := #[.pointer (some ⟨w'.heap.size + 2, 0, none⟩)]) rfl trivial (enters_of Tryz.func92 (by kernel_rfl) rfl) (fun _ => rfl)
    (fun k W => (∃ v, Boxed W (w'.heap.size + 1) 27 v ∧ W.ownsRow w'.heap.size 3 1 v (k + 1) (pathL.take (k + 1)) ∧ True) ∧ Boxed W (w'.heap.size + 2) 22 (.slice (some ⟨S, os, none⟩) 2 cs) ∧ Below w'.heap.size w' W)
    (OwnFrom.and (Own.from (holdsRow_own w'.heap.size (w'.heap.size + 1) 27 3 1 (fun k => k + 1) (fun k => pathL.take (k + 1)) (fun _ _ => True)) _) (OwnFrom.and ?ownC (ownFrom_below (Nat.le_refl _) (by rw [hsz]; omega))))
    ?gen ⟨⟨_, bO, row0, trivial⟩, bC, be0⟩ (fun k => { tmps := #[x0, x1, .int .i64 0, x3, x4, .pointer (some ⟨B0, o0, none⟩), x6, x7, x8, x9, x10, .slice (some ⟨S, os, none⟩) 2 cs, .pointer (some ⟨w'.heap.size + 1, 0, none⟩), x13, .int .u32 (at2 k).2, x15, x16, x17, x18, x19, x20, x21, x22, x23, x24, x25, x26, x27, x28, x29, x30, x31, x32, x33, x34, x35, .int .i64 0, .slice (some ⟨w'.heap.size, 0, none⟩) 1 1, .slice (some ⟨S, os, none⟩) 2 cs, .func (.func 92) #[] #[.pointer (some ⟨w'.heap.size + 2, 0, none⟩)], .int .i64 (at2 k).1, .int .u32 (at2 k).2, x42, x43, x44, x45, x46, x47, x48, x49, x50, x51, x52, x53, x54, x55, x56, x57], defers := [] }) ?assign ?body ?done
  case ownC =>
    intro s W W' row h hgr hr
    refine Boxed.kept h hgr fun e => ?_
    obtain ⟨_, o, ho, hc⟩ := hr _ e.symm
    rw [show W.heap[_]? = _ from h] at ho
    cases ho
    cases hc
  case gen =>
    intro l J W hJ hY h0
    exact backward2_in Fence.wide 4 trivial rfl (by omega) l (w'.heap.size + 2) 0 S os cs J (fun k W hj => by
      obtain ⟨_, hC, hB'⟩ := hJ k W hj
      exact ⟨hC.cell, (hB'.cell (p := ⟨S, os, none⟩) hS).trans s0, (hB'.cell (p := ⟨S, os + 1, none⟩) hS).trans s1⟩) hY W h0
  case assign =>
    intro l k W K hK
    gi_wp2
    exact hK
  case body =>
    rintro l k W hk ⟨⟨v, hv, hrow, _⟩, hC, hB'⟩
    have gW : GlW W := hgl.step fun x hx => hB'.block _ (hgl x hx).1
    have t3 := glw_tab gW (i := 3) (n := 2) rfl
    have t1 := glw_tab gW (i := 1) (n := 1) rfl
    have n0 : W.cell? ⟨B0, o0, none⟩ = some (.int .u32 4) := (hB'.cell (p := ⟨B0, o0, none⟩) hB).trans c0
    have n2 := (hB'.cell (p := ⟨B0, o0 + 2, none⟩) hB).trans c2
    obtain ⟨g, cap, rfl⟩ := ownsRow_succ hrow
    have hc := hv.cell
    have hsW := hB'.size
    match k, hk with
    | 0, _ =>
      have p0 : W.cell? ⟨g, 0, none⟩ = some (.int .i64 0) := hrow.cellAt 0 (by decide)
      have ea : at2 0 = (1, 4) := rfl
      simp only [ea]
      gi_wp2
      refine ⟨trivial, (tz4b l _ W t3).mono ?_⟩
      rintro e W2 ⟨rfl, e2⟩
      rw [e2]
      gi_wp2_with (gi_at_builtin; refine wpListIn_append_own _ rfl _ _ 27 rfl w'.heap.size 3 i0 (.int .i64 0) 1 8 Tryz.underlying27 hi hz0 hz1 hz2 rfl (by decide) _ _ _ rfl (hrow.alloc _) ⟨W.heap.size, 0, none⟩ 1 1 [.int .i64 2] rfl rfl (cell_one_new _ _ _) (by simp [Value.oneCell']) (by omega) (by omega) (by simp; omega) ?_; intro v' w1 hown' hgrow _; obtain ⟨g', cap', rfl⟩ := ownsRow_succ hown'; obtain ⟨q1, q2, q3, q4, q5⟩ := step 0 W w1 _ _ _ hv hrow hC hB' hown' hgrow; have hc1 := q5.cell; have hf1 := q5.frozen)
      obtain ⟨v2, z1, z2, _⟩ := q2
      exact ⟨v2, z1, z2⟩
    | 1, _ =>
      have p1 : W.cell? ⟨g, 1, none⟩ = some (.int .i64 2) := hrow.cellAt 1 (by decide)
      have ea : at2 1 = (0, 2) := rfl
      simp only [ea]
      gi_wp2
      refine ⟨trivial, (tz2b l _ W t1).mono ?_⟩
      rintro e W2 ⟨rfl, e2⟩
      rw [e2]
      gi_wp2_with (gi_at_builtin; refine wpListIn_append_own _ rfl _ _ 27 rfl w'.heap.size 3 i0 (.int .i64 0) 1 8 Tryz.underlying27 hi hz0 hz1 hz2 rfl (by decide) _ _ _ rfl (hrow.alloc _) ⟨W.heap.size, 0, none⟩ 1 1 [.int .i64 1] rfl rfl (cell_one_new _ _ _) (by simp [Value.oneCell']) (by omega) (by omega) (by simp; omega) ?_; intro v' w1 hown' hgrow _; obtain ⟨g', cap', rfl⟩ := ownsRow_succ hown'; obtain ⟨q1, q2, q3, q4, q5⟩ := step 1 W w1 _ _ _ hv hrow hC hB' hown' hgrow; have hc1 := q5.cell; have hf1 := q5.frozen)
      obtain ⟨v2, z1, z2, _⟩ := q2
      exact ⟨v2, z1, z2⟩
  case done =>
    rintro D W hD ⟨⟨v, hv, hrow, _⟩, hC, hB'⟩ hK
    have hc := hv.cell
    gi_wp2
    refine ⟨by simp, .inl ⟨_, _, rfl, run_takeDeferred hK, ?_⟩⟩
    have hr := ownsRow_putObj hrow (.deferred none) hK rfl
    refine ⟨_, results_tmp rfl _ _ _, v, rfl, ⟨hr.1, hr.2.imp id fun ⟨g, cap, cur, e, hb, rest⟩ => ⟨g, cap, cur, e, Nat.le_trans hbe.size hb, rest⟩⟩, hbe.trans ((hB'.trans (belowK_b (w := w') (Nat.le_refl _) W D _ _ (by rw [hsz] at hD; omega) hK rfl rfl)).mono hbe.size)⟩
end Go.Proofs.YtdecggbglnbhlaaGreatDoor
