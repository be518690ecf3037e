/-
  The closed executor: a piece of code, run by itself.
-/
import Derived.Test.YtdecggbglnbhlaaGreatDoorK2
set_option linter.unusedSimpArgs false
set_option linter.unusedVariables false
set_option linter.unusedSectionVars false
namespace Go.Clo

abbrev St := Tree Value × Heap × Nat
/-- A piece of code, run from a state. -/
noncomputable def runC (P : Program) (orc : Orc) (n d : Nat) (c : Code) (s : St) : Option St :=
  match compC P n c with
  | none => none
  | some b => execC b P d (callN P orc 20) (chkB P) (fixN 1000000) none s.1 s.2.1 s.2.2 (fun T H nx => some (T, H, nx)) (fun _ _ _ _ => none) (fun _ _ _ => none)
theorem runC_ok {P : Program} {orc : Orc} (hm : P.follows .mixedOrders = true) (hNG : NamesOK P) (ho : OrcOK P orc) {n d : Nat} (hn : n ≤ 2 ^ d) {c : Code} {s t : St} (hw : WF d s.1) (hr : runC P orc n d c s = some t) : WF d t.1 ∧ CodeOK P d n c s.1 s.2.1 s.2.2 .n t.1 t.2.1 t.2.2 := by
  unfold runC at hr
  cases hc : compC P n c with
  | none => rw [hc] at hr; cases hr
  | some b =>
    rw [hc] at hr
    dsimp only at hr
    rcases exec_sound (β := Option St) hm hn (callN_sound hm hNG ho 20) (chkB_ok P) (fixN_ok _) none c b hc s.1 s.2.1 s.2.2 (fun T H nx => some (T, H, nx)) (fun _ _ _ _ => none) (fun _ _ _ => none) hw with h | ⟨o, T', H', nx', h, hw', hok⟩
    · rw [h] at hr; cases hr
    · rw [h] at hr
      cases o with
      | n => cases hr; exact ⟨hw', hok⟩
      | x id => cases hr
      | r => cases hr
end Go.Clo
