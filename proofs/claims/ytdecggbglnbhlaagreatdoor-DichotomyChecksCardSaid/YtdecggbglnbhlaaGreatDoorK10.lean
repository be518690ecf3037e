/-
  connex.walk at the one call that 'awake' comes to: up to its range over slices.Backward.
-/
import Derived.Test.YtdecggbglnbhlaaGreatDoorK3
import Derived.Test.YtdecggbglnbhlaaGreatDoorK7
import Derived.Test.YtdecggbglnbhlaaGreatDoorK8
import Derived.Test.YtdecggbglnbhlaaGreatDoorK9
set_option linter.unusedSimpArgs false
set_option linter.unusedVariables false
set_option linter.unusedSectionVars false
namespace Go.Proofs.YtdecggbglnbhlaaGreatDoor
open Go.Clo

def nbL : List Nat := [4, 4, 3, 0, 0, 0, 0, 0, 0, 0, 0, 0, 0, 0, 0, 0, 0, 0, 0, 0, 0, 0, 0, 0, 0, 0, 0, 0, 0, 0, 0, 0]
def nbC : List Value := nbL.map fun (n : Nat) => Value.int .u32 (n : Int)
def nbV : Array Value := ⟨nbC⟩
def walkArgs : List Value := [.agg nbV, .int .u32 4, .int .i64 0, .int .u32 2, .int .i64 2]

def seqL : Code → Code
  | .seq a _ => a
  | c => c
def seqR : Code → Code
  | .seq _ b => b
  | c => c
noncomputable def c52 : Code := Tryz.f52.body.getD .skip
noncomputable def q0 : Code := seqL c52
noncomputable def q1 : Code := seqL (seqR c52)
noncomputable def q2 : Code := seqL (seqR (seqR c52))

noncomputable def st0 : St := (fillT 6 walkArgs 0 .leaf, .leaf, 0)
noncomputable def rc (c : Code) (s : St) : Option St := runC Tryz.prog noOrc 58 6 c s
noncomputable def st3 : Option St := ((rc q0 st0).bind (rc q1)).bind (rc q2)
set_option maxRecDepth 1000000 in
theorem st3_facts : (st3.map fun s => (tg s.1 2, tg s.1 5, tg s.1 11, getH s.2.1 0, getH s.2.1 17, s.2.2)) =
    some (some (.int .i64 0), some (.pointer (some ⟨0, 0, none⟩)), some (.slice (some ⟨17, 0, none⟩) 2 2), some (.cells nbC 0), some (.cells [.int .u32 2, .int .u32 4] 1), 18) := by kernel_rfl
theorem arr58 (a : Array Value) (h : a.size = 58) : ∃ x0 x1 x2 x3 x4 x5 x6 x7 x8 x9 x10 x11 x12 x13 x14 x15 x16 x17 x18 x19 x20 x21 x22 x23 x24 x25 x26 x27 x28 x29 x30 x31 x32 x33 x34 x35 x36 x37 x38 x39 x40 x41 x42 x43 x44 x45 x46 x47 x48 x49 x50 x51 x52 x53 x54 x55 x56 x57, a = #[x0, x1, x2, x3, x4, x5, x6, x7, x8, x9, x10, x11, x12, x13, x14, x15, x16, x17, x18, x19, x20, x21, x22, x23, x24, x25, x26, x27, x28, x29, x30, x31, x32, x33, x34, x35, x36, x37, x38, x39, x40, x41, x42, x43, x44, x45, x46, x47, x48, x49, x50, x51, x52, x53, x54, x55, x56, x57] := by
  obtain ⟨l⟩ := a
  simp only [List.size_toArray] at h
  obtain _ | ⟨x0, l⟩ := l
  · simp at h
  obtain _ | ⟨x1, l⟩ := l
  · simp at h
  obtain _ | ⟨x2, l⟩ := l
  · simp at h
  obtain _ | ⟨x3, l⟩ := l
  · simp at h
  obtain _ | ⟨x4, l⟩ := l
  · simp at h
  obtain _ | ⟨x5, l⟩ := l
  · simp at h
  obtain _ | ⟨x6, l⟩ := l
  · simp at h
  obtain _ | ⟨x7, l⟩ := l
  · simp at h
  obtain _ | ⟨x8, l⟩ := l
  · simp at h
  obtain _ | ⟨x9, l⟩ := l
  · simp at h
  obtain _ | ⟨x10, l⟩ := l
  · simp at h
  obtain _ | ⟨x11, l⟩ := l
  · simp at h
  obtain _ | ⟨x12, l⟩ := l
  · simp at h
  obtain _ | ⟨x13, l⟩ := l
  · simp at h
  obtain _ | ⟨x14, l⟩ := l
  · simp at h
  obtain _ | ⟨x15, l⟩ := l
  · simp at h
  obtain _ | ⟨x16, l⟩ := l
  · simp at h
  obtain _ | ⟨x17, l⟩ := l
  · simp at h
  obtain _ | ⟨x18, l⟩ := l
  · simp at h
  obtain _ | ⟨x19, l⟩ := l
  · simp at h
  obtain _ | ⟨x20, l⟩ := l
  · simp at h
  obtain _ | ⟨x21, l⟩ := l
  · simp at h
  obtain _ | ⟨x22, l⟩ := l
  · simp at h
  obtain _ | ⟨x23, l⟩ := l
  · simp at h
  obtain _ | ⟨x24, l⟩ := l
  · simp at h
  obtain _ | ⟨x25, l⟩ := l
  · simp at h
  obtain _ | ⟨x26, l⟩ := l
  · simp at h
  obtain _ | ⟨x27, l⟩ := l
  · simp at h
  obtain _ | ⟨x28, l⟩ := l
  · simp at h
  obtain _ | ⟨x29, l⟩ := l
  · simp at h
  obtain _ | ⟨x30, l⟩ := l
  · simp at h
  obtain _ | ⟨x31, l⟩ := l
  · simp at h
  obtain _ | ⟨x32, l⟩ := l
  · simp at h
  obtain _ | ⟨x33, l⟩ := l
  · simp at h
  obtain _ | ⟨x34, l⟩ := l
  · simp at h
  obtain _ | ⟨x35, l⟩ := l
  · simp at h
  obtain _ | ⟨x36, l⟩ := l
  · simp at h
  obtain _ | ⟨x37, l⟩ := l
  · simp at h
  obtain _ | ⟨x38, l⟩ := l
  · simp at h
  obtain _ | ⟨x39, l⟩ := l
  · simp at h
  obtain _ | ⟨x40, l⟩ := l
  · simp at h
  obtain _ | ⟨x41, l⟩ := l
  · simp at h
  obtain _ | ⟨x42, l⟩ := l
  · simp at h
  obtain _ | ⟨x43, l⟩ := l
  · simp at h
  obtain _ | ⟨x44, l⟩ := l
  · simp at h
  obtain _ | ⟨x45, l⟩ := l
  · simp at h
  obtain _ | ⟨x46, l⟩ := l
  · simp at h
  obtain _ | ⟨x47, l⟩ := l
  · simp at h
  obtain _ | ⟨x48, l⟩ := l
  · simp at h
  obtain _ | ⟨x49, l⟩ := l
  · simp at h
  obtain _ | ⟨x50, l⟩ := l
  · simp at h
  obtain _ | ⟨x51, l⟩ := l
  · simp at h
  obtain _ | ⟨x52, l⟩ := l
  · simp at h
  obtain _ | ⟨x53, l⟩ := l
  · simp at h
  obtain _ | ⟨x54, l⟩ := l
  · simp at h
  obtain _ | ⟨x55, l⟩ := l
  · simp at h
  obtain _ | ⟨x56, l⟩ := l
  · simp at h
  obtain _ | ⟨x57, l⟩ := l
  · simp at h
  obtain _ | ⟨y, l⟩ := l
  · exact ⟨x0, x1, x2, x3, x4, x5, x6, x7, x8, x9, x10, x11, x12, x13, x14, x15, x16, x17, x18, x19, x20, x21, x22, x23, x24, x25, x26, x27, x28, x29, x30, x31, x32, x33, x34, x35, x36, x37, x38, x39, x40, x41, x42, x43, x44, x45, x46, x47, x48, x49, x50, x51, x52, x53, x54, x55, x56, x57, rfl⟩
  · simp at h

/-- Behind the first loop: the array's box, the two stages. -/
theorem walk_pre (w : World) (hg : GlW w) (Q : Exit → Act → World → Prop) (rest : Code)
    (hk : ∀ (a : Act) (w' : World) (B0 o0 S os cs : Nat), a.defers = [] → a.tmps.size = 58 → a.tmps.getD 2 undef = .int .i64 0 → a.tmps.getD 5 undef = .pointer (some ⟨B0, o0, none⟩) → a.tmps.getD 11 undef = .slice (some ⟨S, os, none⟩) 2 cs →
      w'.cell? ⟨B0, o0 + 0, none⟩ = some (.int .u32 4) → w'.cell? ⟨B0, o0 + 2, none⟩ = some (.int .u32 3) → w'.cell? ⟨S, os, none⟩ = some (.int .u32 2) → w'.cell? ⟨S, os + 1, none⟩ = some (.int .u32 4) → GlW w' → RowKit.Below w.heap.size w w' →
      B0 < w'.heap.size → S < w'.heap.size → rest.wpIn Fence.wide 5 Tryz.prog Q a w') :
    (Code.seq q0 (.seq q1 (.seq q2 rest))).wpIn Fence.wide 5 Tryz.prog Q { tmps := walkArgs.toArray ++ Array.replicate (58 - walkArgs.toArray.size) undef, defers := [] } w := by
  have hf := st3_facts
  cases h3 : st3 with
  | none => rw [h3] at hf; cases hf
  | some s3 =>
  rw [h3] at hf
  simp only [Option.map_some, Option.some.injEq, Prod.mk.injEq] at hf
  obtain ⟨f2, f5, f11, g0, g17, hnx⟩ := hf
  unfold st3 at h3
  obtain ⟨s2, h2, e3⟩ := Option.bind_eq_some_iff.1 h3
  obtain ⟨s1, e1, e2⟩ := Option.bind_eq_some_iff.1 h2
  have hn : 58 ≤ 2 ^ 6 := by decide
  have hlen : walkArgs.length ≤ 58 := by decide
  have wl : WF 6 (.leaf : Tree Value) := trivial
  have w0 : WF 6 st0.1 := fillT_wf 6 walkArgs 0 .leaf wl
  obtain ⟨w1, k1⟩ := runC_ok mixed namesOK (noOrc_ok _) hn w0 e1
  obtain ⟨w2, k2⟩ := runC_ok mixed namesOK (noOrc_ok _) hn w1 e2
  obtain ⟨w3, k3⟩ := runC_ok mixed namesOK (noOrc_ok _) hn w2 e3
  have hvl : VL (fun _ => none) walkArgs walkArgs := .cons (VR.agg' (flatL_refl _ _ (by decide))) (.cons (.int _ _) (.cons (.int _ _) (.cons (.int _ _) (.cons (.int _ _) .nil))))
  refine wpIn_seq (wpIn_wide.2 (k1 (fun _ => none) _ w _ (TR_start hvl hn hlen) (In.start w hg).hr fun F1 a1 W1 t1 p1 d1 => ?_))
  refine wpIn_seq (wpIn_wide.2 (k2 F1 a1 W1 _ t1 p1.hr fun F2 a2 W2 t2 p2 d2 => ?_))
  refine wpIn_seq (wpIn_wide.2 (k3 F2 a2 W2 _ t2 p2.hr fun F3 a3 W3 t3 p3 d3 => ?_))
  have p := (p1.trans p2).trans p3
  have r2 := t3.get 2 (by decide)
  have r5 := t3.get 5 (by decide)
  have r11 := t3.get 11 (by decide)
  rw [f2] at r2; rw [f5] at r5; rw [f11] at r11
  simp only [Option.getD_some] at r2 r5 r11
  obtain ⟨_, t, hF, e5⟩ := r5.ptr_inv
  obtain ⟨_, tt, cc, hF2, e11, _⟩ := r11.slice_inv
  have S0 : Sl s3.2.1 s3.2.2 (some ⟨0, 0, none⟩) nbC := fun i u hu => ⟨0, 0, nbC, rfl, by rw [hnx]; omega, by simp [rowOf, g0, Blk.row], by simpa using hu⟩
  have S17 : Sl s3.2.1 s3.2.2 (some ⟨17, 0, none⟩) [.int .u32 2, .int .u32 4] := fun i u hu => ⟨17, 0, [.int .u32 2, .int .u32 4], rfl, by rw [hnx]; omega, by simp [rowOf, g17, Blk.row], by simpa using hu⟩
  obtain ⟨v0, c0, r0⟩ := cell_of_sl p3.hr hF S0 (i := 0) (v := .int .u32 4) rfl
  obtain ⟨v2, c2, r2'⟩ := cell_of_sl p3.hr hF S0 (i := 2) (v := .int .u32 3) rfl
  obtain ⟨u0, c3, r3⟩ := cell_of_sl p3.hr hF2 S17 (i := 0) (v := .int .u32 2) rfl
  obtain ⟨u1, c4, r4⟩ := cell_of_sl p3.hr hF2 S17 (i := 1) (v := .int .u32 4) rfl
  cases r0; cases r2'; cases r3; cases r4
  have hb : RowKit.Below w.heap.size w W3 := ⟨p.os, p.tape, p.output, p.size, fun b hb => p.frame b hb fun ⟨i, _, _, hi, _⟩ => by simp [st0] at hi⟩
  refine hk a3 W3 t.blk (t.base + 0) tt.blk (tt.base + 0) cc (by rw [d3, d2, d1]) t3.size ?_ e5 e11 c0 c2 c3 c4 p3.hr.gl.1 hb (blk_of_sl p3.hr hF S0 (by decide)) (blk_of_sl p3.hr hF2 S17 (by decide))
  generalize a3.tmps.getD 2 undef = z at r2
  cases r2; rfl
end Go.Proofs.YtdecggbglnbhlaaGreatDoor
