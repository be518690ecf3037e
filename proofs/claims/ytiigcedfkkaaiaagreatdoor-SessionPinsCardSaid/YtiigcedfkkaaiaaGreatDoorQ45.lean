/-
  The law where the first remainder is 3: one closed run for each second remainder.
-/
import Derived.Test.YtiigcedfkkaaiaaGreatDoorQ42
namespace Go.Proofs.YtiigcedfkkaaiaaGreatDoor
set_option maxRecDepth 1000000 in
theorem law3 (m c : Nat) : lawV 3 m c = lawQ 3 m c := by kernel_rfl
end Go.Proofs.YtiigcedfkkaaiaaGreatDoor
