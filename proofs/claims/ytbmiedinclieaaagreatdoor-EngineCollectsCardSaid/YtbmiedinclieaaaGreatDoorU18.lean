/-
  The closed facts of the card, one by one.
  The row's tie to the program's text: nine closed facts, one by one (in one theorem they need more memory than there is).
-/
import Derived.Test.YtbmiedinclieaaaGreatDoorRows
import Derived.SevenTiedAt
import Derived.KernelRfl
import Derived.LaidByTextLater
set_option linter.all false
namespace Go.Proofs.YtbmiedinclieaaaGreatDoor.engineCollects
open Go
theorem k1 : Rows.engineCollectsRow.wfByText (OpenSpec.ofChange Rows.engineCollectsSpec) = true := by kernel_rfl
theorem k2 : Tryz.pinned.checked.prog.mainIs = some (true, "07c44e6f159c175ebf633aaa5f4d16bc4e176d794bf5110a870e942e873631e8".toList) := by kernel_rfl
theorem nogo : (Tryz.prog.funcs.toList.all fun fn => !fn.goes) = true := by kernel_rfl
theorem goes_no (g : FuncId) : (Tryz.prog.funcs[g]?).any Func.goes = false := by
  cases h : Tryz.prog.funcs[g]? with
  | none => rfl
  | some fn =>
    have h1 := List.all_eq_true.1 nogo fn (List.mem_of_getElem? (by simpa using h))
    show fn.goes = false
    simpa using h1
theorem goes_any : Tryz.prog.funcs.any Func.goes = false := by
  rw [← Array.any_toList, List.any_eq_false]
  intro fn hfn
  have h1 := List.all_eq_true.1 nogo fn hfn
  simpa using h1
theorem goes_false (f : FuncId) : Tryz.prog.goes f = false := by
  unfold Program.goes
  rw [goes_any, Bool.and_false, Bool.or_false, List.any_eq_false]
  intro g _
  rw [goes_no]
  exact Bool.false_ne_true
theorem goes_of (P : Program) (h : ∀ f, P.goes f = false) (c : OpenClaim) (hs : c.start = .entering) : false = c.goesBy P := by
  unfold OpenClaim.goesBy Program.goesAt Program.goesFrom
  rw [hs]
  cases P.funcNamed c.func with
  | none => rfl
  | some f => simp [h]
theorem k3 : false = Rows.engineCollectsRow.goesBy Tryz.pinned.checked.prog := goes_of _ goes_false _ rfl
theorem k4 : true = Tryz.pinned.checked.prog.looks [] := by kernel_rfl
theorem k5 : Tryz.prog.funcNamed Rows.engineCollectsRow.func = some 3 := by kernel_rfl
theorem k6 : ([22, 5].all fun u => !Tryz.prog.wantsStandIn u) = true := by kernel_rfl
end Go.Proofs.YtbmiedinclieaaaGreatDoor.engineCollects

namespace Go.Proofs.YtbmiedinclieaaaGreatDoor.engineCollects
open Go
def laidT : List (String × DataW Unit) := Rows.engineCollectsRow.laid
theorem t0 : Tryz.pinned.checked.prog.headLifts.contains "ownunsafe" = false := by kernel_rfl
theorem t1 : Tryz.prog.worded (varsWordLater true) = true := by kernel_rfl
theorem t2 : Tryz.prog.worded (varsWordLater !true) = false := by kernel_rfl
theorem t3 : Tryz.prog.worded rootWordLater = true := by kernel_rfl
theorem t4 : laidT.map (fun x => Tryz.prog.kindOfLater x.1) = [LaidKind.data, .data, .data, .data].map some := by kernel_rfl
theorem t5 : (Tryz.prog.funcNamed "gosem.cut.vars").isSome = true := by kernel_rfl
theorem t6 : varsNamedLaterB Tryz.prog (varsId Tryz.prog) laidT = true := by kernel_rfl
theorem t7 : ∀ os tape, varsDone Tryz.prog 400 (varsId Tryz.prog) os tape = true := fun _ _ => by kernel_rfl
theorem t8 : ∀ os tape, (DataW.laidRun Tryz.prog (varsWorld Tryz.prog 400 (varsId Tryz.prog) os tape).memory 8 (laidT.map (·.1))).map (·.1) = some laidT := fun _ _ => by kernel_rfl
theorem t9 : ∀ os tape, (DataW.laidRun Tryz.prog (varsWorld Tryz.prog 400 (varsId Tryz.prog) os tape).memory 8 (laidT.map (·.1))).map (fun x => decide x.2.Nodup && laidRowsB Tryz.prog (varsWorld Tryz.prog 400 (varsId Tryz.prog) os tape).memory x.2) = some true := fun _ _ => by kernel_rfl
theorem tie0 : Tryz.prog.laidByTextLater Rows.engineCollectsRow.laid [.data, .data, .data, .data] true :=
  Program.laidByTextLater_by_run 400 8 t1 t2 t3 t4 t5 t6 t7 t8 t9
theorem row_tie0 : Rows.engineCollectsRow.laidByTextAt .later Tryz.pinned [.data, .data, .data, .data] true :=
  OpenClaim.laidByTextAt_later rfl rfl tie0 t0
end Go.Proofs.YtbmiedinclieaaaGreatDoor.engineCollects
