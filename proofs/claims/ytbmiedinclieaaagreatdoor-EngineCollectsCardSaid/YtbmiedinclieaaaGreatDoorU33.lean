/-
  The law, for every input.
-/
import Derived.Test.YtbmiedinclieaaaGreatDoorU9
import Derived.Test.YtbmiedinclieaaaGreatDoorU26
import Derived.Test.YtbmiedinclieaaaGreatDoorU27
import Derived.Test.YtbmiedinclieaaaGreatDoorU14
import Derived.Test.YtbmiedinclieaaaGreatDoorU32
set_option linter.all false
namespace Go.Proofs.YtbmiedinclieaaaGreatDoor
open Go.Clo
theorem law_ans {A : Option Addr} (bs : List Nat) (cap many : Nat) {H : Heap} {nx : Nat} (hA : Sl H nx A (u8s bs)) (hb : ∀ x ∈ bs, x < 256) (hm : many < 256) :
    Ans Tryz.prog 3 [.slice A bs.length cap, .int .u8 (many : Int)] H nx fun r _ _ => r = .bool true :=
  law3 cl clone_ok sorted_ok collect_ok (fun H nx => ⟨_, _, _, awake_cs H nx, rfl, rfl, rfl⟩) bs cap many hA hb hm
end Go.Proofs.YtbmiedinclieaaaGreatDoor
