/-
  SessionFinds, query 3.
-/
import Derived.Test.YtaiefmkapnekiaaGreatDoorH39
import Derived.Test.YtaiefmkapnekiaaGreatDoorH46
set_option linter.all false
namespace Go.Proofs.YtaiefmkapnekiaaGreatDoor
open Go.Clo
set_option maxRecDepth 1000000 in
theorem lawF3 (q k : Nat) (x y : Int) : lawP mkF3 rnF3 3 q k x y = lawQ 3 3 1 q k x y := by kernel_rfl
end Go.Proofs.YtaiefmkapnekiaaGreatDoor
