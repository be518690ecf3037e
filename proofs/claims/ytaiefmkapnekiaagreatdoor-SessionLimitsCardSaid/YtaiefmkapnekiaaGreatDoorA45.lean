/-
  SessionLimits where the first remainder is 3: one run for each second remainder, in two halves.
-/
import Derived.Test.YtaiefmkapnekiaaGreatDoorA41
namespace Go.Proofs.YtaiefmkapnekiaaGreatDoor
set_option maxRecDepth 1000000 in
theorem law3a (m c : Nat) : lawL 3 0 m c = lawQ 3 0 m c := by kernel_rfl
set_option maxRecDepth 1000000 in
theorem law3b (m c : Nat) : lawL 3 8 m c = lawQ 3 8 m c := by kernel_rfl
end Go.Proofs.YtaiefmkapnekiaaGreatDoor
