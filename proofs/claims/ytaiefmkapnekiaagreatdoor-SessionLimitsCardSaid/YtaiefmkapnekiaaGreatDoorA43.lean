/-
  SessionLimits where the first remainder is 1: one run for each second remainder, in two halves.
-/
import Derived.Test.YtaiefmkapnekiaaGreatDoorA41
namespace Go.Proofs.YtaiefmkapnekiaaGreatDoor
set_option maxRecDepth 1000000 in
theorem law1a (m c : Nat) : lawL 1 0 m c = lawQ 1 0 m c := by kernel_rfl
set_option maxRecDepth 1000000 in
theorem law1b (m c : Nat) : lawL 1 8 m c = lawQ 1 8 m c := by kernel_rfl
end Go.Proofs.YtaiefmkapnekiaaGreatDoor
