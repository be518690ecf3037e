/-
  The closed facts of the card, one by one.
-/
import Derived.Test.YtchmiblahedkcaaGreatDoorRows
import Derived.SevenTiedAt
import Derived.KernelRfl
set_option linter.all false
namespace Go.Proofs.YtchmiblahedkcaaGreatDoor.viewsNames
open Go
theorem k1 : Rows.viewsNamesRow.wfByText (OpenSpec.ofChange Rows.viewsNamesSpec) = true := by kernel_rfl
theorem k2 : Tryz.pinned.checked.prog.mainIs = some (true, "47a8dd16fc974c0f0b2e6f79e1855606ad99c4ad67bb73224446afa678e41b6d".toList) := by kernel_rfl
theorem k3 : false = Rows.viewsNamesRow.goesBy Tryz.pinned.checked.prog := by kernel_rfl
theorem k4 : true = Tryz.pinned.checked.prog.looks [] := by kernel_rfl
theorem k5 : Tryz.prog.funcNamed Rows.viewsNamesRow.func = some 3 := by kernel_rfl
theorem k6 : ([22].all fun u => !Tryz.prog.wantsStandIn u) = true := by kernel_rfl
end Go.Proofs.YtchmiblahedkcaaGreatDoor.viewsNames
