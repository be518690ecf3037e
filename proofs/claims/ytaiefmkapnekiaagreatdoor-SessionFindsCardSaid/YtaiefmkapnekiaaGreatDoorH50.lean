/-
  SessionFinds, for every input.
-/
import Derived.Test.YtaiefmkapnekiaaGreatDoorH41
import Derived.Test.YtaiefmkapnekiaaGreatDoorH43
import Derived.Test.YtaiefmkapnekiaaGreatDoorH45
import Derived.Test.YtaiefmkapnekiaaGreatDoorH47
import Derived.Test.YtaiefmkapnekiaaGreatDoorH49
set_option linter.all false
namespace Go.Proofs.YtaiefmkapnekiaaGreatDoor
open Go.Clo
/-- A long run, put away so that nobody runs it. -/
structure Holds (p : Prop) : Prop where
  h : p
theorem holds_of {p q : Prop} (e : p = q) (hq : q) : Holds p := ⟨e.mpr hq⟩
set_option maxRecDepth 100000 in
theorem calls_holds {mk rn : O} (hm : OK1 83 mk) (hr : OK1 85 rn) {n q k : Nat} {x y : Int} (h : Holds (lawP mk rn n q k x y)) (w : World) (hg : GlW w) :
    Calls Tryz.prog 4 (argsF q k x y).toArray w fun e w' => e = .returned (.bool true) ∧ RowKit.Below w.heap.size w w' := by
  obtain ⟨h⟩ := h
  exact calls_lawP hm hr h w hg
set_option maxRecDepth 100000 in
theorem law_calls (q k : Nat) (x y : Int) (hq : q < 256) (hk : k < 256) (hx : -128 ≤ x ∧ x < 128) (hy : -128 ≤ y ∧ y < 128) (w : World) (hg : GlW w) :
    Calls Tryz.prog 4 #[.int .u8 (.ofNat q), .int .u8 (.ofNat k), .agg ⟨[.int .i8 x, .int .i8 y]⟩] w fun e w' => e = .returned (.bool true) ∧ RowKit.Below w.heap.size w w' := by
  have : q % 5 = 0 ∨ q % 5 = 1 ∨ q % 5 = 2 ∨ q % 5 = 3 ∨ q % 5 = 4 := by omega
  rcases this with e | e | e | e | e
  · exact calls_holds mkF0_ok rnF0_ok (holds_of (lawF0 q k x y) (lawQ_ok 2 1 hq hk hx hy e)) w hg
  · exact calls_holds mkF1_ok rnF1_ok (holds_of (lawF1 q k x y) (lawQ_ok 2 2 hq hk hx hy e)) w hg
  · exact calls_holds mkF2_ok rnF2_ok (holds_of (lawF2 q k x y) (lawQ_ok 2 1 hq hk hx hy e)) w hg
  · exact calls_holds mkF3_ok rnF3_ok (holds_of (lawF3 q k x y) (lawQ_ok 3 1 hq hk hx hy e)) w hg
  · exact calls_holds mkF4_ok rnF4_ok (holds_of (lawF4 q k x y) (lawQ_ok 1 0 hq hk hx hy e)) w hg
end Go.Proofs.YtaiefmkapnekiaaGreatDoor
