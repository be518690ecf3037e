/-
  The store's chain: the batches from 72 on.
-/
import Derived.Test.YtbmiedinclieaaaGreatDoorU13
set_option linter.all false
namespace Go.Proofs.YtbmiedinclieaaaGreatDoor
open Go.Clo
set_option maxRecDepth 1000000 in
theorem lg72 : (List.range' 72 2).all logC = true := by kernel_rfl
set_option maxRecDepth 1000000 in
theorem lg74 : (List.range' 74 2).all logC = true := by kernel_rfl
set_option maxRecDepth 1000000 in
theorem lg76 : (List.range' 76 2).all logC = true := by kernel_rfl
set_option maxRecDepth 1000000 in
theorem lg78 : (List.range' 78 2).all logC = true := by kernel_rfl
set_option maxRecDepth 1000000 in
theorem lg80 : (List.range' 80 2).all logC = true := by kernel_rfl
set_option maxRecDepth 1000000 in
theorem lg82 : (List.range' 82 1).all logC = true := by kernel_rfl
theorem logs4 {i : Nat} (h0 : 72 ≤ i) (h1 : i < 83) : logC i = true := by
  by_cases h : i < 74
  · exact List.all_eq_true.1 lg72 i (List.mem_range'_1.2 ⟨by omega, by omega⟩)
  by_cases h : i < 76
  · exact List.all_eq_true.1 lg74 i (List.mem_range'_1.2 ⟨by omega, by omega⟩)
  by_cases h : i < 78
  · exact List.all_eq_true.1 lg76 i (List.mem_range'_1.2 ⟨by omega, by omega⟩)
  by_cases h : i < 80
  · exact List.all_eq_true.1 lg78 i (List.mem_range'_1.2 ⟨by omega, by omega⟩)
  by_cases h : i < 82
  · exact List.all_eq_true.1 lg80 i (List.mem_range'_1.2 ⟨by omega, by omega⟩)
  exact List.all_eq_true.1 lg82 i (List.mem_range'_1.2 ⟨by omega, by omega⟩)
end Go.Proofs.YtbmiedinclieaaaGreatDoor
