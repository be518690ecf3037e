/-
  The law's example: one closed run.
-/
import Derived.Test.YtchmiblahedkcaaGreatDoorB23
set_option linter.all false
namespace Go.Proofs.YtchmiblahedkcaaGreatDoor
open Go.Clo
set_option maxRecDepth 1000000 in
theorem awake_run : runDv Tryz.prog orc dok 200 4 [] = some (.bool true) := by kernel_rfl
theorem enters4 : Go.Clo.Enters Tryz.prog 4 := ⟨_, _, Tryz.func4, rfl, by kernel_rfl⟩
theorem awake4 (H : Heap) (nx : Nat) : CS Tryz.prog 4 [] H nx (.bool true) H nx :=
  cs_flatG enters4 rfl rfl (fun w hg => runD_calls mixed namesOK orc_ok dok_ok awake_run rfl rfl w hg) H nx
end Go.Proofs.YtchmiblahedkcaaGreatDoor
