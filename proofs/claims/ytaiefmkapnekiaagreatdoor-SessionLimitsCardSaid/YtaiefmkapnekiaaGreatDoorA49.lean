/-
  SessionLimits where the first remainder is 7: one run for each second remainder, in two halves.
-/
import Derived.Test.YtaiefmkapnekiaaGreatDoorA41
namespace Go.Proofs.YtaiefmkapnekiaaGreatDoor
set_option maxRecDepth 1000000 in
theorem law7a (m c : Nat) : lawL 7 0 m c = lawQ 7 0 m c := by kernel_rfl
set_option maxRecDepth 1000000 in
theorem law7b (m c : Nat) : lawL 7 8 m c = lawQ 7 8 m c := by kernel_rfl
end Go.Proofs.YtaiefmkapnekiaaGreatDoor
