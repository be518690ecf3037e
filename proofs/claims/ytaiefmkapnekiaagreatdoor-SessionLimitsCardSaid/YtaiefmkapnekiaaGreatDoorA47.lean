/-
  SessionLimits where the first remainder is 5: one run for each second remainder, in two halves.
-/
import Derived.Test.YtaiefmkapnekiaaGreatDoorA41
namespace Go.Proofs.YtaiefmkapnekiaaGreatDoor
set_option maxRecDepth 1000000 in
theorem law5a (m c : Nat) : lawL 5 0 m c = lawQ 5 0 m c := by kernel_rfl
set_option maxRecDepth 1000000 in
theorem law5b (m c : Nat) : lawL 5 8 m c = lawQ 5 8 m c := by kernel_rfl
end Go.Proofs.YtaiefmkapnekiaaGreatDoor
