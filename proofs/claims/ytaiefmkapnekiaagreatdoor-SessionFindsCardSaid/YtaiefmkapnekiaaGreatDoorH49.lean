/-
  SessionFinds, query 4.
-/
import Derived.Test.YtaiefmkapnekiaaGreatDoorH39
import Derived.Test.YtaiefmkapnekiaaGreatDoorH48
set_option linter.all false
namespace Go.Proofs.YtaiefmkapnekiaaGreatDoor
open Go.Clo
set_option maxRecDepth 1000000 in
theorem lawF4 (q k : Nat) (x y : Int) : lawP mkF4 rnF4 4 q k x y = lawQ 4 1 0 q k x y := by kernel_rfl
end Go.Proofs.YtaiefmkapnekiaaGreatDoor
