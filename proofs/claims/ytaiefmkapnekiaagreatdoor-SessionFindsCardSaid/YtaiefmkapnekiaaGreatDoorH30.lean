/-
  The closed facts of the card, one by one.
-/
import Derived.Test.YtaiefmkapnekiaaGreatDoorRows
import Derived.SevenTiedAt
import Derived.KernelRfl
set_option linter.all false
namespace Go.Proofs.YtaiefmkapnekiaaGreatDoor.sessionFinds
open Go
theorem k1 : Rows.sessionFindsRow.wfByText (OpenSpec.ofChange Rows.sessionFindsSpec) = true := by kernel_rfl
theorem k2 : Tryz.pinned.checked.prog.mainIs = some (true, "7acaea9157489fea7d5bdc8200c6bacaa3c548cf3167544913f224d47347260e".toList) := by kernel_rfl
theorem nogo : (Tryz.prog.funcs.toList.all fun fn => !fn.goes) = true := by kernel_rfl
theorem goes_no (g : FuncId) : (Tryz.prog.funcs[g]?).any Func.goes = false := by
  cases h : Tryz.prog.funcs[g]? with
  | none => rfl
  | some fn =>
    have h1 := List.all_eq_true.1 nogo fn (List.mem_of_getElem? (by simpa using h))
    show fn.goes = false
    simpa using h1
theorem goes_any : Tryz.prog.funcs.any Func.goes = false := by
  rw [← Array.any_toList, List.any_eq_false]
  intro fn hfn
  have h1 := List.all_eq_true.1 nogo fn hfn
  simpa using h1
theorem goes_false (f : FuncId) : Tryz.prog.goes f = false := by
  unfold Program.goes
  rw [goes_any, Bool.and_false, Bool.or_false, List.any_eq_false]
  intro g _
  rw [goes_no]
  exact Bool.false_ne_true
theorem goes_of (P : Program) (h : ∀ f, P.goes f = false) (c : OpenClaim) (hs : c.start = .entering) : false = c.goesBy P := by
  unfold OpenClaim.goesBy Program.goesAt Program.goesFrom
  rw [hs]
  cases P.funcNamed c.func with
  | none => rfl
  | some f => simp [h]
theorem k3 : false = Rows.sessionFindsRow.goesBy Tryz.pinned.checked.prog := goes_of _ goes_false _ rfl
theorem k4 : true = Tryz.pinned.checked.prog.looks [] := by kernel_rfl
theorem k5 : Tryz.prog.funcNamed Rows.sessionFindsRow.func = some 4 := by kernel_rfl
theorem k6 : ([5, 5, 71].all fun u => !Tryz.prog.wantsStandIn u) = true := by kernel_rfl
end Go.Proofs.YtaiefmkapnekiaaGreatDoor.sessionFinds
