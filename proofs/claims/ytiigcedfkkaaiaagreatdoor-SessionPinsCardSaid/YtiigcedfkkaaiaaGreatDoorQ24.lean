/-
  The closed facts of the row, one by one.
-/
import Derived.Test.YtiigcedfkkaaiaaGreatDoorRows
import Derived.ProofKit
import Derived.KernelRfl
set_option linter.all false
namespace Go.Proofs.YtiigcedfkkaaiaaGreatDoor.sessionPins
open Go
theorem j1 : Rows.sessionPinsRow.inPlace = Tryz.pinned.checked.prog.inPlace 3 := by kernel_rfl
theorem j2 : Rows.sessionPinsRow.unfollowed = Tryz.pinned.checked.prog.unfollowed 3 := by kernel_rfl
theorem j3 : Rows.sessionPinsRow.recurses = Tryz.pinned.checked.prog.recurses 3 := by kernel_rfl
theorem j4 : Rows.sessionPinsRow.named = Tryz.pinned.checked.prog.varsNamed 3 := by kernel_rfl
end Go.Proofs.YtiigcedfkkaaiaaGreatDoor.sessionPins
