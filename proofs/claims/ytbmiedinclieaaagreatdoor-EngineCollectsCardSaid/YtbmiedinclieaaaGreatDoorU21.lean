/-
  The store's chain: the batches from 46 on.
-/
import Derived.Test.YtbmiedinclieaaaGreatDoorU13
set_option linter.all false
namespace Go.Proofs.YtbmiedinclieaaaGreatDoor
open Go.Clo
set_option maxRecDepth 1000000 in
theorem lg46 : (List.range' 46 3).all logC = true := by kernel_rfl
set_option maxRecDepth 1000000 in
theorem lg49 : (List.range' 49 3).all logC = true := by kernel_rfl
set_option maxRecDepth 1000000 in
theorem lg52 : (List.range' 52 3).all logC = true := by kernel_rfl
set_option maxRecDepth 1000000 in
theorem lg55 : (List.range' 55 3).all logC = true := by kernel_rfl
set_option maxRecDepth 1000000 in
theorem lg58 : (List.range' 58 2).all logC = true := by kernel_rfl
theorem logs2 {i : Nat} (h0 : 46 ≤ i) (h1 : i < 60) : logC i = true := by
  by_cases h : i < 49
  · exact List.all_eq_true.1 lg46 i (List.mem_range'_1.2 ⟨by omega, by omega⟩)
  by_cases h : i < 52
  · exact List.all_eq_true.1 lg49 i (List.mem_range'_1.2 ⟨by omega, by omega⟩)
  by_cases h : i < 55
  · exact List.all_eq_true.1 lg52 i (List.mem_range'_1.2 ⟨by omega, by omega⟩)
  by_cases h : i < 58
  · exact List.all_eq_true.1 lg55 i (List.mem_range'_1.2 ⟨by omega, by omega⟩)
  exact List.all_eq_true.1 lg58 i (List.mem_range'_1.2 ⟨by omega, by omega⟩)
end Go.Proofs.YtbmiedinclieaaaGreatDoor
