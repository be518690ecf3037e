/-
  SessionLimits where the first remainder is 0: one run for each second remainder, in two halves.
-/
import Derived.Test.YtaiefmkapnekiaaGreatDoorA41
namespace Go.Proofs.YtaiefmkapnekiaaGreatDoor
set_option maxRecDepth 1000000 in
theorem law0a (m c : Nat) : lawL 0 0 m c = lawQ 0 0 m c := by kernel_rfl
set_option maxRecDepth 1000000 in
theorem law0b (m c : Nat) : lawL 0 8 m c = lawQ 0 8 m c := by kernel_rfl
end Go.Proofs.YtaiefmkapnekiaaGreatDoor
