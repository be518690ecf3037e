/-
  SessionLimits where the first remainder is 2: one run for each second remainder, in two halves.
-/
import Derived.Test.YtaiefmkapnekiaaGreatDoorA41
namespace Go.Proofs.YtaiefmkapnekiaaGreatDoor
set_option maxRecDepth 1000000 in
theorem law2a (m c : Nat) : lawL 2 0 m c = lawQ 2 0 m c := by kernel_rfl
set_option maxRecDepth 1000000 in
theorem law2b (m c : Nat) : lawL 2 8 m c = lawQ 2 8 m c := by kernel_rfl
end Go.Proofs.YtaiefmkapnekiaaGreatDoor
