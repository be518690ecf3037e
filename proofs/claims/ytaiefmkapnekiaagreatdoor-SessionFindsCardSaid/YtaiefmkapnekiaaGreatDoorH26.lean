/-
  The closed facts of the row: every type's row fits, part by part.
-/
import Derived.Test.YtaiefmkapnekiaaGreatDoorRows
import Derived.ProofKit
import Derived.KernelRfl
set_option linter.all false
namespace Go.Proofs.YtaiefmkapnekiaaGreatDoor.facts
open Go
theorem f0 : (List.range' 0 150).all (rowFine Tryz.prog) = true := by kernel_rfl
theorem f1 : (List.range' 150 150).all (rowFine Tryz.prog) = true := by kernel_rfl
theorem f2 : (List.range' 300 120).all (rowFine Tryz.prog) = true := by kernel_rfl
theorem f3 : (List.range' 420 120).all (rowFine Tryz.prog) = true := by kernel_rfl
theorem f4 : (List.range' 540 100).all (rowFine Tryz.prog) = true := by kernel_rfl
theorem f5 : (List.range' 640 100).all (rowFine Tryz.prog) = true := by kernel_rfl
theorem f6 : (List.range' 740 100).all (rowFine Tryz.prog) = true := by kernel_rfl
theorem size_is : Tryz.prog.types.size = 840 := by kernel_rfl
theorem chunk {P : Program} {a n : Nat} (h : (List.range' a n).all (rowFine P) = true) {t : Nat} (h1 : a ≤ t) (h2 : t < a + n) : rowFine P t = true :=
  List.all_eq_true.1 h t (List.mem_range'_1.2 ⟨h1, h2⟩)
theorem rows_fine : (List.range Tryz.prog.types.size).all (rowFine Tryz.prog) = true := by
  rw [size_is, List.all_eq_true]
  intro t ht
  have ht := List.mem_range.1 ht
  by_cases g0 : t < 150
  · exact chunk f0 (by omega) (by omega)
  by_cases g1 : t < 300
  · exact chunk f1 (by omega) (by omega)
  by_cases g2 : t < 420
  · exact chunk f2 (by omega) (by omega)
  by_cases g3 : t < 540
  · exact chunk f3 (by omega) (by omega)
  by_cases g4 : t < 640
  · exact chunk f4 (by omega) (by omega)
  by_cases g5 : t < 740
  · exact chunk f5 (by omega) (by omega)
  · exact chunk f6 (by omega) (by omega)
theorem globs_fine : Tryz.prog.globals.all (fun g => decide (g.type < Tryz.prog.types.size)) = true := by rw [size_is]; kernel_rfl
theorem funcs_fine : Tryz.prog.funcs.all (fun f => f.params.all fun t => decide (t < Tryz.prog.types.size)) = true := by rw [size_is]; kernel_rfl
theorem laidOut : laidOutB Tryz.prog = true := by
  unfold laidOutB
  rw [rows_fine, globs_fine, funcs_fine]
  rfl
end Go.Proofs.YtaiefmkapnekiaaGreatDoor.facts
