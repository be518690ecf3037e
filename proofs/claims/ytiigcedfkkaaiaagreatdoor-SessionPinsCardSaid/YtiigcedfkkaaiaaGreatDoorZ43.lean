/-
  The law's calls where the first remainder is 3, 4 or 5: the first two calls of Open are given.
-/
import Derived.Test.YtiigcedfkkaaiaaGreatDoorZ37
import Derived.Test.YtiigcedfkkaaiaaGreatDoorZ41
import Derived.Test.YtiigcedfkkaaiaaGreatDoorZ42
set_option linter.all false
namespace Go.Proofs.YtiigcedfkkaaiaaGreatDoor
open Go.Clo
noncomputable def openO : O := fun args H nx => match embO co1A co1P co1M co1V co1L co1N args H nx with
  | some r => some r
  | none => embO co2A co2P co2M co2V co2L co2N args H nx
theorem openO_ok {args : List Value} {H : Heap} {nx : Nat} {v : Value} {H' : Heap} {nx' : Nat} (h : openO args H nx = some (v, H', nx')) : CS Tryz.prog 7 args H nx v H' nx' := by
  unfold openO at h
  split at h
  · rename_i r hr
    cases h
    exact open1_ok hr
  · exact open2_ok h
noncomputable def call5 : PCall := fun f args H nx z k => cond (Nat.beq f 7)
  (match openO args H nx with
    | some (v, H, nx) => k v H nx
    | none => call3 f args H nx z k) (call3 f args H nx z k)
set_option maxRecDepth 100000 in
theorem call5_ok : CallOK Tryz.prog call5 := by
  intro f args H nx z k
  unfold call5
  cases hb : Nat.beq f 7 with
  | false => exact call3_ok f args H nx z k
  | true =>
    simp only [cond_true]
    cases ho : openO args H nx with
    | none => exact call3_ok f args H nx z k
    | some r =>
      obtain ⟨v, H', nx'⟩ := r
      refine .inr ⟨v, H', nx', rfl, ?_⟩
      rw [Nat.eq_of_beq_eq_true hb]
      exact openO_ok ho
noncomputable def lawV (n m c : Nat) : Prop := exF Tryz.prog call5 (fsN n) 3 [.int .u8 (.ofNat m), .int .u8 (.ofNat c)] .leaf 0 yes
end Go.Proofs.YtiigcedfkkaaiaaGreatDoor
