/-
  The law's calls where the first remainder is not 0: planner.Make and planner.Run are given, under any names.
-/
import Derived.Test.YtiigcedfkkaaiaaGreatDoorQ38
import Derived.Test.YtiigcedfkkaaiaaGreatDoorQ40
import Derived.Test.YtiigcedfkkaaiaaGreatDoorQ41
set_option linter.all false
namespace Go.Proofs.YtiigcedfkkaaiaaGreatDoor
open Go.Clo
noncomputable def makeO : O := embR cw74A cw74P cw74M cw74V cw74L cw74N
noncomputable def runO : O := embR cw76A cw76P cw76M cw76V cw76L cw76N
noncomputable def orc4 : Orc := fun f => cond (Nat.beq f 74) (some makeO) (cond (Nat.beq f 76) (some runO) (orc3 f))
set_option maxRecDepth 100000 in
theorem orc4_ok : OrcOK Tryz.prog orc4 := by
  intro f o h args H nx v H' nx' ho
  unfold orc4 at h
  cases h1 : Nat.beq f 74 with
  | true => rw [h1] at h; cases h; rw [Nat.eq_of_beq_eq_true h1]; exact w74_ok ho
  | false =>
    rw [h1] at h
    simp only [cond_false] at h
    cases h2 : Nat.beq f 76 with
    | true => rw [h2] at h; cases h; rw [Nat.eq_of_beq_eq_true h2]; exact w76_ok ho
    | false => rw [h2] at h; exact orc3_ok f o h args H nx v H' nx' ho
noncomputable def call4 : PCall := callD (β := Prop) Tryz.prog orc4 dok 200
theorem callP_ok4 (n : Nat) : CallOK Tryz.prog (callD (β := Prop) Tryz.prog orc4 dok n) := callD_sound mixed namesOK orc4_ok dok_ok n
set_option maxRecDepth 100000 in
theorem call4_ok : CallOK Tryz.prog call4 := by unfold call4; exact callP_ok4 200
noncomputable def lawV (n m c : Nat) : Prop := exF Tryz.prog call4 (fsN n) 3 [.int .u8 (.ofNat m), .int .u8 (.ofNat c)] .leaf 0 yes
end Go.Proofs.YtiigcedfkkaaiaaGreatDoor
