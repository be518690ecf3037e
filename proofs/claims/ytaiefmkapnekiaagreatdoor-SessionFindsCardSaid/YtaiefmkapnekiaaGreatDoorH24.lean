/-
  The closed facts of the row, one by one.
-/
import Derived.Test.YtaiefmkapnekiaaGreatDoorRows
import Derived.ProofKit
import Derived.KernelRfl
set_option linter.all false
namespace Go.Proofs.YtaiefmkapnekiaaGreatDoor.sessionFinds
open Go
theorem j1 : Rows.sessionFindsRow.inPlace = Tryz.pinned.checked.prog.inPlace 4 := by kernel_rfl
theorem j2 : Rows.sessionFindsRow.unfollowed = Tryz.pinned.checked.prog.unfollowed 4 := by kernel_rfl
theorem j3 : Rows.sessionFindsRow.recurses = Tryz.pinned.checked.prog.recurses 4 := by kernel_rfl
theorem j4 : Rows.sessionFindsRow.named = Tryz.pinned.checked.prog.varsNamed 4 := by kernel_rfl
end Go.Proofs.YtaiefmkapnekiaaGreatDoor.sessionFinds
