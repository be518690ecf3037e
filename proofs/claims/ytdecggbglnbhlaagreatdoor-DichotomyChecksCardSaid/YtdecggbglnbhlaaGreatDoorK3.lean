/-
  math/bits.TrailingZeros32 at two numbers, slices.Backward over numbers, connex.around at one call.
-/
import Derived.RangeFuncBox
import Derived.RangeFuncLeaves
import Derived.Shelf.Abstract
import Derived.WalkKit
import Derived.OwnWalkIn
import Derived.TacticsInMore
import Derived.LoopNIn
import Derived.LoopIn
import Derived.Maps.AppendAt
import Derived.Test.YtdecggbglnbhlaaGreatDoorProg
set_option linter.unusedSimpArgs false
set_option linter.unusedVariables false
set_option linter.unusedSectionVars false
namespace Go.Proofs.YtdecggbglnbhlaaGreatDoor
open Go.RowKit Go.Shelf

attribute [local go_sem] Oper.semAt_some

set_option maxRecDepth 100000 in
set_option maxHeartbeats 1000000 in
theorem tz4_in (F : Fence) (n : Nat) (h : F.fn 78) (hro : F.round = none) (w : World) (hc : w.cell? ⟨0, 3, none⟩ = some (.int .u8 2)) : CallsIn F n Tryz.prog 78 #[.int .u32 4] w fun e w' => e = .returned (.int .i64 2) ∧ w' = w := by
  have e : (bits BinOp.and IntKind.u32 4 4294967292 * 125613361 % 4294967296 / 134217728).toNat = 3 := by decide
  have hc' : w.cell? ⟨0, (bits BinOp.and IntKind.u32 4 4294967292 * 125613361 % 4294967296 / 134217728).toNat, none⟩ = some (.int .u8 2) := by rw [e]; exact hc
  clear e
  refine callsIn_of_wp Tryz.func78 rfl h ?_ hro
  simp only [Tryz.ntmps78, List.size_toArray, List.length_cons, List.length_nil, Nat.reduceAdd, Nat.reduceSub, Array.replicate_succ, Array.replicate_zero, List.push_toArray, List.append_toArray, List.nil_append, List.cons_append]
  gi_wp2
  go_ret
  exact ⟨rfl, rfl⟩
set_option maxRecDepth 100000 in
set_option maxHeartbeats 1000000 in
theorem tz2_in (F : Fence) (n : Nat) (h : F.fn 78) (hro : F.round = none) (w : World) (hc : w.cell? ⟨0, 1, none⟩ = some (.int .u8 1)) : CallsIn F n Tryz.prog 78 #[.int .u32 2] w fun e w' => e = .returned (.int .i64 1) ∧ w' = w := by
  have e : (bits BinOp.and IntKind.u32 2 4294967294 * 125613361 % 4294967296 / 134217728).toNat = 1 := by decide
  have hc' : w.cell? ⟨0, (bits BinOp.and IntKind.u32 2 4294967294 * 125613361 % 4294967296 / 134217728).toNat, none⟩ = some (.int .u8 1) := by rw [e]; exact hc
  clear e
  refine callsIn_of_wp Tryz.func78 rfl h ?_ hro
  simp only [Tryz.ntmps78, List.size_toArray, List.length_cons, List.length_nil, Nat.reduceAdd, Nat.reduceSub, Array.replicate_succ, Array.replicate_zero, List.push_toArray, List.append_toArray, List.nil_append, List.cons_append]
  gi_wp2
  go_ret
  exact ⟨rfl, rfl⟩

def encP (x : Int × Int) : Array Value := #[.int .i64 x.1, .int .u32 x.2]
/-- The two stages, from behind. -/
def at2 (j : Nat) : Int × Int := (1 - (j : Int), if j = 0 then 4 else 2)

set_option maxRecDepth 100000 in
set_option maxHeartbeats 4000000 in
theorem backward2_in (F : Fence) (n : Nat) (h7 : F.fn 92) (hro : F.round = none) (hn : 1 ≤ n) (l Bs Bo b off cap : Nat) (J : Nat → World → Prop)
    (hJ : ∀ k W, J k W → W.cell? ⟨Bs, Bo, none⟩ = some (.slice (some ⟨b, off, none⟩) 2 cap) ∧ W.cell? ⟨b, off, none⟩ = some (.int .u32 2) ∧ W.cell? ⟨b, off + 1, none⟩ = some (.int .u32 4))
    (hY : ∀ k W1, k < 2 → J k W1 → YieldAt F (n - 1) Tryz.prog l (encP (at2 k)) W1 fun e W' => e = .returned (.bool true) ∧ J (k + 1) W') (W : World) (h0 : J 0 W) :
    CallsIn F n Tryz.prog 92 #[.func (.yield l) #[] #[], .pointer (some ⟨Bs, Bo, none⟩)] W fun e W' => (∃ v, e = .returned v) ∧ J 2 W' := by
  refine callsIn_of_wp Tryz.func92 rfl h7 ?_ hro
  simp only [Tryz.ntmps92, List.size_toArray, List.length_cons, List.length_nil, Nat.reduceAdd, Nat.reduceSub, Array.replicate_succ, Array.replicate_zero, List.push_toArray, List.append_toArray, List.nil_append, List.cons_append]
  obtain ⟨hz0, hz1, hz2⟩ := hJ 0 W h0
  gi_wp2
  gi_loopw [3] (fun i wr => ∃ k : Nat, k ≤ 2 ∧ i = .int .i64 (1 - (k : Int)) ∧ J k wr)
    (fun i _ => (intOf i + 1).toNat)
  case atStart => exact ⟨0, by omega, rfl, h0⟩
  case round =>
    obtain ⟨k, hk, rfl, hJs⟩ := hrel
    obtain ⟨hBs', hcc0, hcc1⟩ := hJ k wr hJs
    match k, hk with
    | 0, _ =>
      obtain ⟨fn, tmps, assign, body, hy0, hR⟩ := hY 0 wr (by omega) hJs
      have hy : Sem.run Tryz.prog (Instr.yield l #[Value.int IntKind.i64 1, Value.int IntKind.u32 4]) wr = Result.ok (Next.round l fn tmps assign body) wr := hy0
      gi_wp2
      refine hR.mono ?_
      rintro e W3 ⟨rfl, hJ3⟩
      gi_wp2
      go_roundw
      case rel => exact ⟨1, by omega, by simp, hJ3⟩
      case measure => simp [intOf]
    | 1, _ =>
      obtain ⟨fn, tmps, assign, body, hy0, hR⟩ := hY 1 wr (by omega) hJs
      have hy : Sem.run Tryz.prog (Instr.yield l #[Value.int IntKind.i64 0, Value.int IntKind.u32 2]) wr = Result.ok (Next.round l fn tmps assign body) wr := hy0
      gi_wp2
      refine hR.mono ?_
      rintro e W3 ⟨rfl, hJ3⟩
      gi_wp2
      go_roundw
      case rel => exact ⟨2, by omega, by simp, hJ3⟩
      case measure => simp [intOf]
    | 2, _ =>
      gi_wp2
      go_end0
      exact ⟨⟨_, rfl⟩, hJs⟩
end Go.Proofs.YtdecggbglnbhlaaGreatDoor
