/-
  SessionFinds, query 0.
-/
import Derived.Test.YtaiefmkapnekiaaGreatDoorH39
import Derived.Test.YtaiefmkapnekiaaGreatDoorH40
set_option linter.all false
namespace Go.Proofs.YtaiefmkapnekiaaGreatDoor
open Go.Clo
set_option maxRecDepth 1000000 in
theorem lawF0 (q k : Nat) (x y : Int) : lawP mkF0 rnF0 0 q k x y = lawQ 0 2 1 q k x y := by kernel_rfl
end Go.Proofs.YtaiefmkapnekiaaGreatDoor
