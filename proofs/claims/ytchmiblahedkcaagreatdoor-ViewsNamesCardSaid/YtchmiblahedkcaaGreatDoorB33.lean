/-
  The closed facts of the row, one by one.
-/
import Derived.Test.YtchmiblahedkcaaGreatDoorRows
import Derived.ProofKit
import Derived.KernelRfl
set_option linter.all false
namespace Go.Proofs.YtchmiblahedkcaaGreatDoor.viewsNames
open Go
theorem j1 : Rows.viewsNamesRow.inPlace = Tryz.pinned.checked.prog.inPlace 3 := by kernel_rfl
theorem j2 : Rows.viewsNamesRow.unfollowed = Tryz.pinned.checked.prog.unfollowed 3 := by kernel_rfl
theorem j3 : Rows.viewsNamesRow.recurses = Tryz.pinned.checked.prog.recurses 3 := by kernel_rfl
theorem j4 : Rows.viewsNamesRow.named = Tryz.pinned.checked.prog.varsNamed 3 := by kernel_rfl
end Go.Proofs.YtchmiblahedkcaaGreatDoor.viewsNames
