/-
  'awake' of this seat returns true, whatever the world: one run of the closed executor.
-/
import Derived.Test.YtaieijjfabbfeaaCloP
import Derived.Test.YtaieijjfabbfeaaProg
import Derived.KernelRfl
set_option linter.unusedSimpArgs false
set_option linter.unusedVariables false
set_option linter.unusedSectionVars false
namespace Go.Proofs.Ytaieijjfabbfeaa
open Go.Clo

theorem mixed : Try.prog.follows .mixedOrders = true := by kernel_rfl
theorem names_all : (Try.prog.funcs.toList.all fun fn => !(fn.name == "runtime.NumGoroutine")) = true := by kernel_rfl
theorem namesOK : NamesOK Try.prog := by
  intro f fn hf
  have h := List.all_eq_true.mp names_all fn (by
    have : Try.prog.funcs.toList[f]? = some fn := by simpa using hf
    exact List.mem_of_getElem? this)
  simpa using h
set_option maxRecDepth 1000000 in
theorem awake_run : runA Try.prog noOrc 100 7 [] = some (.bool true) := by kernel_rfl
theorem awake_calls (w : World) : Calls Try.prog 7 #[] w fun e w' => e = .returned (.bool true) ∧ RowKit.Below w.heap.size w w' :=
  run_calls mixed namesOK (noOrc_ok _) awake_run rfl rfl w
end Go.Proofs.Ytaieijjfabbfeaa
