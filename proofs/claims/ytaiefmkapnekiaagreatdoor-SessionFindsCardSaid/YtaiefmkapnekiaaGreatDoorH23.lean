/-
  math/bits.TrailingZeros32 at the numbers below 64.
-/
import Derived.Shelf.Abstract
import Derived.WalkKit
import Derived.OwnWalkIn
import Derived.TacticsInMore
import Derived.LoopNIn
import Derived.LoopIn
import Derived.Test.YtaiefmkapnekiaaGreatDoorProg
import Derived.Test.YtaiefmkapnekiaaGreatDoorH20
set_option linter.all false
namespace Go.Proofs.YtaiefmkapnekiaaGreatDoor
open Go.RowKit Go.Shelf Go.Clo

attribute [local go_sem] Oper.semAt_some

/-- The place in the table of de Bruijn indices. -/
def tzi (x : Nat) : Nat := (bits BinOp.and IntKind.u32 x (4294967296 - x) * 125613361 % 4294967296 / 134217728).toNat
set_option maxRecDepth 100000 in
set_option maxHeartbeats 1000000 in
theorem tz_in {x : Nat} (h0 : 0 < x) (h64 : x < 64) (F : Fence) (n : Nat) (h : F.fn 336) (hro : F.round = none) (w : World) (t : Nat) (hc : w.cell? ⟨1, tzi x, none⟩ = some (.int .u8 (t : Int))) (ht : t < 32) :
    CallsIn F n Tryz.prog 336 #[.int .u32 (x : Int)] w fun e w' => e = .returned (.int .i64 (t : Int)) ∧ w' = w := by
  have e1 : IntKind.u32.wrap (-(x : Int)) = 4294967296 - (x : Int) := by
    simp only [IntKind.wrap, IntKind.signed, IntKind.bits]
    simp
    omega
  have hx0 : ¬ (x : Int) = 0 := by omega
  refine callsIn_of_wp Tryz.func336 rfl h ?_ hro
  simp only [Tryz.ntmps336, List.size_toArray, List.length_cons, List.length_nil, Nat.reduceAdd, Nat.reduceSub, Array.replicate_succ, Array.replicate_zero, List.push_toArray, List.append_toArray, List.nil_append, List.cons_append]
  have hc' : w.cell? ⟨1, (bits BinOp.and IntKind.u32 x (4294967296 - x) * 125613361 % 4294967296 / 134217728).toNat, none⟩ = some (.int .u8 (t : Int)) := hc
  have hw : IntKind.i64.wrap (t : Int) = (t : Int) := by
    simp only [IntKind.wrap, IntKind.signed, IntKind.bits]
    simp
    omega
  gi_wp2
  go_ret
  exact ⟨by simp [hw], rfl⟩
end Go.Proofs.YtaiefmkapnekiaaGreatDoor
