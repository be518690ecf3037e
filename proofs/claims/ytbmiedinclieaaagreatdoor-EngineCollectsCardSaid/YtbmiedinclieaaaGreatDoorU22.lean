/-
  The store's chain: the batches from 60 on.
-/
import Derived.Test.YtbmiedinclieaaaGreatDoorU13
set_option linter.all false
namespace Go.Proofs.YtbmiedinclieaaaGreatDoor
open Go.Clo
set_option maxRecDepth 1000000 in
theorem lg60 : (List.range' 60 3).all logC = true := by kernel_rfl
set_option maxRecDepth 1000000 in
theorem lg63 : (List.range' 63 3).all logC = true := by kernel_rfl
set_option maxRecDepth 1000000 in
theorem lg66 : (List.range' 66 3).all logC = true := by kernel_rfl
set_option maxRecDepth 1000000 in
theorem lg69 : (List.range' 69 3).all logC = true := by kernel_rfl
theorem logs3 {i : Nat} (h0 : 60 ≤ i) (h1 : i < 72) : logC i = true := by
  by_cases h : i < 63
  · exact List.all_eq_true.1 lg60 i (List.mem_range'_1.2 ⟨by omega, by omega⟩)
  by_cases h : i < 66
  · exact List.all_eq_true.1 lg63 i (List.mem_range'_1.2 ⟨by omega, by omega⟩)
  by_cases h : i < 69
  · exact List.all_eq_true.1 lg66 i (List.mem_range'_1.2 ⟨by omega, by omega⟩)
  exact List.all_eq_true.1 lg69 i (List.mem_range'_1.2 ⟨by omega, by omega⟩)
end Go.Proofs.YtbmiedinclieaaaGreatDoor
