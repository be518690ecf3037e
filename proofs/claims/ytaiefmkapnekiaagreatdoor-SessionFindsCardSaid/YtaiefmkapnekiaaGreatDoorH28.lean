/-
  A closed fact of the row.
-/
import Derived.Test.YtaiefmkapnekiaaGreatDoorRows
import Derived.ProofKit
import Derived.KernelRfl
set_option linter.all false
namespace Go.Proofs.YtaiefmkapnekiaaGreatDoor.facts
open Go
set_option maxRecDepth 100000 in
theorem heard : Tryz.prog.stopsHeard = true := by kernel_rfl
set_option maxRecDepth 100000 in
theorem mayEnter : Tryz.prog.mayEnter = true := by kernel_rfl
end Go.Proofs.YtaiefmkapnekiaaGreatDoor.facts
