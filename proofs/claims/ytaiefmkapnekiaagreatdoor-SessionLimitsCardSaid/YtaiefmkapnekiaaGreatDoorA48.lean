/-
  SessionLimits where the first remainder is 6: one run for each second remainder, in two halves.
-/
import Derived.Test.YtaiefmkapnekiaaGreatDoorA41
namespace Go.Proofs.YtaiefmkapnekiaaGreatDoor
set_option maxRecDepth 1000000 in
theorem law6a (m c : Nat) : lawL 6 0 m c = lawQ 6 0 m c := by kernel_rfl
set_option maxRecDepth 1000000 in
theorem law6b (m c : Nat) : lawL 6 8 m c = lawQ 6 8 m c := by kernel_rfl
end Go.Proofs.YtaiefmkapnekiaaGreatDoor
