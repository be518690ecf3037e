/-
  The law where the first remainder is 5: one closed run for each second remainder.
-/
import Derived.Test.YtiigcedfkkaaiaaGreatDoorQ42
namespace Go.Proofs.YtiigcedfkkaaiaaGreatDoor
set_option maxRecDepth 1000000 in
theorem law5 (m c : Nat) : lawV 5 m c = lawQ 5 m c := by kernel_rfl
end Go.Proofs.YtiigcedfkkaaiaaGreatDoor
