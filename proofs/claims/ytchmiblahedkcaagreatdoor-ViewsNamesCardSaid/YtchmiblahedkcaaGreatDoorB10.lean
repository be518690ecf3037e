/-
  What the generated texts of this seat lean on.
-/
import Derived.Test.YtchmiblahedkcaaGreatDoorB6
import Derived.Test.YtchmiblahedkcaaGreatDoorB9
import Derived.Test.YtchmiblahedkcaaGreatDoorProg
import Derived.KernelRfl
set_option linter.all false
namespace Go.Proofs.YtchmiblahedkcaaGreatDoor
open Go.Clo
theorem mixed : Tryz.prog.follows .mixedOrders = true := by kernel_rfl
theorem names_ok : (Tryz.prog.funcs.toList.all fun f => !(f.name == "runtime.NumGoroutine")) = true := by kernel_rfl
theorem namesOK : NamesOK Tryz.prog := by
  intro f fn hf
  have h1 := List.all_eq_true.1 names_ok fn (List.mem_of_getElem? (by simpa using hf))
  cases hx : (fn.name == "runtime.NumGoroutine") with
  | false => rfl
  | true => rw [hx] at h1; cases h1
theorem specA {f : FuncId} {args : List Value} {H : Heap} {nx : Nat} {Q : Value → Heap → Nat → Prop} {F : Prop} (js : List (Nat × List Nat)) (ls : List (List Nat)) (hs : List HT)
    (hc : cfn Tryz.prog f = some ⟨cN Tryz.prog f, Nat.log2 (cN Tryz.prog f) + 1, (mkD Tryz.prog f js ls hs).erase, cR Tryz.prog f⟩ := by kernel_rfl) (hok : (mkD Tryz.prog f js ls hs).ok (cN Tryz.prog f) (Nat.log2 (cN Tryz.prog f) + 1) = true := by kernel_rfl) (hl : Nat.ble args.length (cN Tryz.prog f) = true := by kernel_rfl)
    (he : wBody Tryz.prog (cN Tryz.prog f) (Nat.log2 (cN Tryz.prog f) + 1) (mkD Tryz.prog f js ls hs) (cR Tryz.prog f) args H nx Q = F := by kernel_rfl) (h : F) : Ans Tryz.prog f args H nx Q :=
  spec_at mixed namesOK hc hok hl he h
end Go.Proofs.YtchmiblahedkcaaGreatDoor
