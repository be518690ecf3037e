/-
  SessionLimits where the first remainder is 4: one run for each second remainder, in two halves.
-/
import Derived.Test.YtaiefmkapnekiaaGreatDoorA41
namespace Go.Proofs.YtaiefmkapnekiaaGreatDoor
set_option maxRecDepth 1000000 in
theorem law4a (m c : Nat) : lawL 4 0 m c = lawQ 4 0 m c := by kernel_rfl
set_option maxRecDepth 1000000 in
theorem law4b (m c : Nat) : lawL 4 8 m c = lawQ 4 8 m c := by kernel_rfl
end Go.Proofs.YtaiefmkapnekiaaGreatDoor
