/-
  The store's chain: the batches from 28 on.
-/
import Derived.Test.YtbmiedinclieaaaGreatDoorU13
set_option linter.all false
namespace Go.Proofs.YtbmiedinclieaaaGreatDoor
open Go.Clo
set_option maxRecDepth 1000000 in
theorem lg28 : (List.range' 28 4).all logC = true := by kernel_rfl
set_option maxRecDepth 1000000 in
theorem lg32 : (List.range' 32 4).all logC = true := by kernel_rfl
set_option maxRecDepth 1000000 in
theorem lg36 : (List.range' 36 4).all logC = true := by kernel_rfl
set_option maxRecDepth 1000000 in
theorem lg40 : (List.range' 40 3).all logC = true := by kernel_rfl
set_option maxRecDepth 1000000 in
theorem lg43 : (List.range' 43 3).all logC = true := by kernel_rfl
theorem logs1 {i : Nat} (h0 : 28 ≤ i) (h1 : i < 46) : logC i = true := by
  by_cases h : i < 32
  · exact List.all_eq_true.1 lg28 i (List.mem_range'_1.2 ⟨by omega, by omega⟩)
  by_cases h : i < 36
  · exact List.all_eq_true.1 lg32 i (List.mem_range'_1.2 ⟨by omega, by omega⟩)
  by_cases h : i < 40
  · exact List.all_eq_true.1 lg36 i (List.mem_range'_1.2 ⟨by omega, by omega⟩)
  by_cases h : i < 43
  · exact List.all_eq_true.1 lg40 i (List.mem_range'_1.2 ⟨by omega, by omega⟩)
  exact List.all_eq_true.1 lg43 i (List.mem_range'_1.2 ⟨by omega, by omega⟩)
end Go.Proofs.YtbmiedinclieaaaGreatDoor
