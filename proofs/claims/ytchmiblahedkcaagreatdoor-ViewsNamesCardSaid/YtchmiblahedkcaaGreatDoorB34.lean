/-
  The closed facts of the row, joined.
-/
import Derived.Test.YtchmiblahedkcaaGreatDoorB33
import Derived.JoinedOf
set_option linter.all false
namespace Go.Proofs.YtchmiblahedkcaaGreatDoor.viewsNames
open Go
set_option maxRecDepth 100000 in
theorem closed : joinedFacts Tryz.pinned.checked.prog 3 Tryz.f3 Rows.viewsNamesSpec Rows.viewsNamesRow = true := by
  unfold joinedFacts
  rw [← j1, ← j2, ← j3, ← j4]
  kernel_rfl
end Go.Proofs.YtchmiblahedkcaaGreatDoor.viewsNames
