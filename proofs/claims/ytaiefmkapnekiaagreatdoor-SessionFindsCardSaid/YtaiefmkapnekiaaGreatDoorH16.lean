/-
  What the generated texts of this seat lean on.
-/
import Derived.Test.YtaiefmkapnekiaaGreatDoorH15
import Derived.Test.YtaiefmkapnekiaaGreatDoorProg
import Derived.KernelRfl
set_option linter.all false
namespace Go.Proofs.YtaiefmkapnekiaaGreatDoor
open Go.Clo
theorem mixed : Tryz.prog.follows .mixedOrders = true := by kernel_rfl
theorem names_ok : (Tryz.prog.funcs.toList.all fun f => !(f.name == "runtime.NumGoroutine")) = true := by kernel_rfl
theorem namesOK : NamesOK Tryz.prog := by
  intro f fn hf
  have h1 := List.all_eq_true.1 names_ok fn (List.mem_of_getElem? (by simpa using hf))
  cases hx : (fn.name == "runtime.NumGoroutine") with
  | false => rfl
  | true => rw [hx] at h1; cases h1
end Go.Proofs.YtaiefmkapnekiaaGreatDoor
