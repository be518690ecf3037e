/-
  The oracles of the sessions' runs: With besides.
-/
import Derived.Test.YtiigcedfkkaaiaaGreatDoorQ33
set_option linter.all false
namespace Go.Proofs.YtiigcedfkkaaiaaGreatDoor
open Go.Clo
noncomputable def movedO : O := runM Tryz.prog call0 [9] 24
noncomputable def orc1 : Orc := fun f => cond (Nat.beq f 9) (some withO) (cond (Nat.beq f 24) (some movedO) (orc0 f))
theorem call_ok (n : Nat) : CallOK Tryz.prog (callD (β := Option Out) Tryz.prog orc0 dok n) := callD_sound mixed namesOK orc0_ok dok_ok n
set_option maxRecDepth 100000 in
theorem call0_ok : CallOK Tryz.prog call0 := by unfold call0; exact call_ok 200
set_option maxRecDepth 100000 in
theorem with_ok {call : OCall} (hc : CallOK Tryz.prog call) {tDs : List Nat} {f : FuncId} {o : O} (e : o = runM Tryz.prog call tDs f) {args : List Value} {H : Heap} {nx : Nat} {v : Value} {H' : Heap} {nx' : Nat} (h : o args H nx = some (v, H', nx')) : CS Tryz.prog f args H nx v H' nx' := by
  rw [e] at h; exact runM_sound mixed namesOK hc h
set_option maxRecDepth 100000 in
theorem orc1_ok : OrcOK Tryz.prog orc1 := by
  intro f o h args H nx v H' nx' ho
  unfold orc1 at h
  cases h1 : Nat.beq f 9 with
  | true =>
    rw [h1] at h; cases h; rw [Nat.eq_of_beq_eq_true h1]
    exact with_ok call0_ok (by unfold withO; rfl) ho
  | false =>
    rw [h1] at h
    simp only [cond_false] at h
    cases h2 : Nat.beq f 24 with
    | true =>
      rw [h2] at h; cases h; rw [Nat.eq_of_beq_eq_true h2]
      exact with_ok call0_ok (by unfold movedO; rfl) ho
    | false => rw [h2] at h; exact orc0_ok f o h args H nx v H' nx' ho
end Go.Proofs.YtiigcedfkkaaiaaGreatDoor
