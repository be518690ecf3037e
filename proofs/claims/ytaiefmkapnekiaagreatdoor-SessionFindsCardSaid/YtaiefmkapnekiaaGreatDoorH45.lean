/-
  SessionFinds, query 2.
-/
import Derived.Test.YtaiefmkapnekiaaGreatDoorH39
import Derived.Test.YtaiefmkapnekiaaGreatDoorH44
set_option linter.all false
namespace Go.Proofs.YtaiefmkapnekiaaGreatDoor
open Go.Clo
set_option maxRecDepth 1000000 in
theorem lawF2 (q k : Nat) (x y : Int) : lawP mkF2 rnF2 2 q k x y = lawQ 2 2 1 q k x y := by kernel_rfl
end Go.Proofs.YtaiefmkapnekiaaGreatDoor
