/-
  The law where the first remainder is 0: one closed run for each second remainder.
-/
import Derived.Test.YtiigcedfkkaaiaaGreatDoorQ38
namespace Go.Proofs.YtiigcedfkkaaiaaGreatDoor
set_option maxRecDepth 1000000 in
theorem law0 (m c : Nat) : lawP 0 m c = lawQ 0 m c := by kernel_rfl
end Go.Proofs.YtiigcedfkkaaiaaGreatDoor
