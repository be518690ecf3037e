/-
  The store's chain: the batches from 83 on.
-/
import Derived.Test.YtbmiedinclieaaaGreatDoorU13
set_option linter.all false
namespace Go.Proofs.YtbmiedinclieaaaGreatDoor
open Go.Clo
set_option maxRecDepth 1000000 in
theorem lg83 : (List.range' 83 2).all logC = true := by kernel_rfl
set_option maxRecDepth 1000000 in
theorem lg85 : (List.range' 85 2).all logC = true := by kernel_rfl
set_option maxRecDepth 1000000 in
theorem lg87 : (List.range' 87 2).all logC = true := by kernel_rfl
set_option maxRecDepth 1000000 in
theorem lg89 : (List.range' 89 2).all logC = true := by kernel_rfl
set_option maxRecDepth 1000000 in
theorem lg91 : (List.range' 91 2).all logC = true := by kernel_rfl
theorem logs5 {i : Nat} (h0 : 83 ≤ i) (h1 : i < 93) : logC i = true := by
  by_cases h : i < 85
  · exact List.all_eq_true.1 lg83 i (List.mem_range'_1.2 ⟨by omega, by omega⟩)
  by_cases h : i < 87
  · exact List.all_eq_true.1 lg85 i (List.mem_range'_1.2 ⟨by omega, by omega⟩)
  by_cases h : i < 89
  · exact List.all_eq_true.1 lg87 i (List.mem_range'_1.2 ⟨by omega, by omega⟩)
  by_cases h : i < 91
  · exact List.all_eq_true.1 lg89 i (List.mem_range'_1.2 ⟨by omega, by omega⟩)
  exact List.all_eq_true.1 lg91 i (List.mem_range'_1.2 ⟨by omega, by omega⟩)
end Go.Proofs.YtbmiedinclieaaaGreatDoor
