/-
  The law where the first remainder is 1: one closed run for each second remainder.
-/
import Derived.Test.YtiigcedfkkaaiaaGreatDoorQ42
namespace Go.Proofs.YtiigcedfkkaaiaaGreatDoor
set_option maxRecDepth 1000000 in
theorem law1 (m c : Nat) : lawV 1 m c = lawQ 1 m c := by kernel_rfl
end Go.Proofs.YtiigcedfkkaaiaaGreatDoor
