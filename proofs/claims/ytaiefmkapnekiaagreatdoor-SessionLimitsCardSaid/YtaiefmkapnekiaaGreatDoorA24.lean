/-
  The closed facts of the row, one by one.
-/
import Derived.Test.YtaiefmkapnekiaaGreatDoorRows
import Derived.ProofKit
import Derived.KernelRfl
set_option linter.all false
namespace Go.Proofs.YtaiefmkapnekiaaGreatDoor.sessionLimits
open Go
theorem j1 : Rows.sessionLimitsRow.inPlace = Tryz.pinned.checked.prog.inPlace 3 := by kernel_rfl
theorem j2 : Rows.sessionLimitsRow.unfollowed = Tryz.pinned.checked.prog.unfollowed 3 := by kernel_rfl
theorem j3 : Rows.sessionLimitsRow.recurses = Tryz.pinned.checked.prog.recurses 3 := by kernel_rfl
theorem j4 : Rows.sessionLimitsRow.named = Tryz.pinned.checked.prog.varsNamed 3 := by kernel_rfl
end Go.Proofs.YtaiefmkapnekiaaGreatDoor.sessionLimits
