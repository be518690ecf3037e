/-
  The fixed query on the fixed database: the runs of New, Schemas, Int, Make and Run, one behind the other, in one look of the kernel.
-/
import Derived.Test.YtchmiblahedkcaaGreatDoorB23
import Derived.Test.YtchmiblahedkcaaGreatDoorB24
import Derived.Test.YtchmiblahedkcaaGreatDoorB26
set_option linter.all false
namespace Go.Proofs.YtchmiblahedkcaaGreatDoor
open Go.Clo

def sR : Value := .string ⟨#[114]⟩
def sX : Value := .string ⟨#[120]⟩
def sE : Value := .string ⟨#[]⟩
def pt (b : Nat) : Value := .slice (some ⟨b, 0, none⟩) 1 1
noncomputable def Ha : Heap := hs (hs .leaf 0 (some (.cells [.int .i64 1] 0))) 1 (some (.cells [sR, pt 0] 0))
def q0 : Blk := .cells [sX] 0
def q1 : Blk := .cells [sX, .int .i64 0, .int .i64 0, sE] 0
def q2 (b : Nat) : Blk := .cells [.bool false, sR, pt b] 0
def q3 (b : Nat) : Blk := .cells [pt b, .slice none 0 0] 0
def qV (a b : Nat) : Value := .agg ⟨[pt a, .int .i64 0, sE, pt b, .slice none 0 0]⟩
noncomputable def addQ {β : Type} (H : Heap) (n : Nat) (k : Value → Heap → Nat → β) : β :=
  forceN (n + 1) fun a => forceN (n + 2) fun b => forceN (n + 3) fun c => forceN (n + 4) fun d =>
    hsK H n (some q0) fun H => hsK H a (some q1) fun H => hsK H b (some (q2 a)) fun H => hsK H c (some (q3 b)) fun H => k (qV n c) H d
noncomputable def Hq (H : Heap) (n : Nat) : Heap := hs (hs (hs (hs H n (some q0)) (n + 1) (some q1)) (n + 2) (some (q2 (n + 1)))) (n + 3) (some (q3 (n + 2)))
theorem addQ_eq {β : Type} (H : Heap) (n : Nat) (k : Value → Heap → Nat → β) : addQ H n k = k (qV n (n + 3)) (Hq H n) (n + 4) := by
  unfold addQ; simp only [forceN_eq, hsK_eq]; rfl
def dbV (m : Nat) : Value := .agg ⟨[.map (some m)]⟩
noncomputable abbrev stp := stepC Tryz.prog orc dok
noncomputable def fin5 (m : Nat) (r : Value) (H : Heap) (n : Nat) : Bool := match r with
  | .tuple ⟨[.agg ⟨[a, b, c, d, e, f]⟩, .agg ⟨[g, h, i, j]⟩, .int .i64 (.ofNat 0)]⟩ => cond (oneCells [a, b, c, d, e, f] && oneCells [g, h, i, j])
    (stp 26 [.agg ⟨[a, b, c, d, e, f]⟩, dbV m] H n fun r H n => match r with
      | .tuple ⟨[rows, st, .int .i64 (.ofNat 0)]⟩ => viewV (.agg ⟨[a, b, c, d, e, f, rows]⟩)
      | _ => false) false
  | _ => false
noncomputable def fin1 (r : Value) (H : Heap) (n : Nat) : Bool := match r with
  | .tuple ⟨[.agg ⟨[.map (some m)]⟩, .int .i64 (.ofNat 0)]⟩ => addQ H n fun q H n =>
    stp 24 [dbV m] H n fun sv H n => stp 25 [.int .i64 1] H n fun one H n => stp 23 [q, sv, one] H n (fin5 m)
  | _ => false
noncomputable def chain : Bool := stp 5 [pt 1] Ha 2 fin1
set_option maxRecDepth 1000000 in
theorem chain_true : chain = true := by kernel_rfl
end Go.Proofs.YtchmiblahedkcaaGreatDoor
