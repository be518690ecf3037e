/-
  SessionFinds, query 1.
-/
import Derived.Test.YtaiefmkapnekiaaGreatDoorH39
import Derived.Test.YtaiefmkapnekiaaGreatDoorH42
set_option linter.all false
namespace Go.Proofs.YtaiefmkapnekiaaGreatDoor
open Go.Clo
set_option maxRecDepth 1000000 in
theorem lawF1 (q k : Nat) (x y : Int) : lawP mkF1 rnF1 1 q k x y = lawQ 1 2 2 q k x y := by kernel_rfl
end Go.Proofs.YtaiefmkapnekiaaGreatDoor
