/-
  The law's example: one closed run.
-/
import Derived.Test.YtaiefmkapnekiaaGreatDoorH36
set_option linter.all false
namespace Go.Proofs.YtaiefmkapnekiaaGreatDoor
open Go.Clo
noncomputable def orc2 : Orc := fun f => cond (Nat.beq f 23) (some createO) (orc1 f)
set_option maxRecDepth 100000 in
theorem orc2_ok : OrcOK Tryz.prog orc2 := by
  intro f o h args H nx v H' nx' ho
  unfold orc2 at h
  cases h1 : Nat.beq f 23 with
  | true => rw [h1] at h; cases h; rw [Nat.eq_of_beq_eq_true h1]; exact createO_ok ho
  | false => rw [h1] at h; exact orc1_ok f o h args H nx v H' nx' ho
set_option maxRecDepth 1000000 in
theorem awake_run : runDv Tryz.prog orc2 dok 200 14 [] = some (.bool true) := by kernel_rfl
theorem enAwake : Go.Clo.Enters Tryz.prog 14 := ⟨_, _, Tryz.func14, rfl, by kernel_rfl⟩
theorem awake_cs (H : Heap) (nx : Nat) : CS Tryz.prog 14 [] H nx (.bool true) H nx :=
  cs_flatG enAwake rfl rfl (fun w hg => runD_calls mixed namesOK orc2_ok dok_ok awake_run rfl rfl w hg) H nx
end Go.Proofs.YtaiefmkapnekiaaGreatDoor
