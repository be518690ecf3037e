/-
  The store's chain: the batches from 0 on.
-/
import Derived.Test.YtbmiedinclieaaaGreatDoorU13
set_option linter.all false
namespace Go.Proofs.YtbmiedinclieaaaGreatDoor
open Go.Clo
set_option maxRecDepth 1000000 in
theorem lg0 : (List.range' 0 5).all logC = true := by kernel_rfl
set_option maxRecDepth 1000000 in
theorem lg5 : (List.range' 5 5).all logC = true := by kernel_rfl
set_option maxRecDepth 1000000 in
theorem lg10 : (List.range' 10 5).all logC = true := by kernel_rfl
set_option maxRecDepth 1000000 in
theorem lg15 : (List.range' 15 5).all logC = true := by kernel_rfl
set_option maxRecDepth 1000000 in
theorem lg20 : (List.range' 20 4).all logC = true := by kernel_rfl
set_option maxRecDepth 1000000 in
theorem lg24 : (List.range' 24 4).all logC = true := by kernel_rfl
theorem logs0 {i : Nat} (h0 : 0 ≤ i) (h1 : i < 28) : logC i = true := by
  by_cases h : i < 5
  · exact List.all_eq_true.1 lg0 i (List.mem_range'_1.2 ⟨by omega, by omega⟩)
  by_cases h : i < 10
  · exact List.all_eq_true.1 lg5 i (List.mem_range'_1.2 ⟨by omega, by omega⟩)
  by_cases h : i < 15
  · exact List.all_eq_true.1 lg10 i (List.mem_range'_1.2 ⟨by omega, by omega⟩)
  by_cases h : i < 20
  · exact List.all_eq_true.1 lg15 i (List.mem_range'_1.2 ⟨by omega, by omega⟩)
  by_cases h : i < 24
  · exact List.all_eq_true.1 lg20 i (List.mem_range'_1.2 ⟨by omega, by omega⟩)
  exact List.all_eq_true.1 lg24 i (List.mem_range'_1.2 ⟨by omega, by omega⟩)
end Go.Proofs.YtbmiedinclieaaaGreatDoor
