/-
  The law's run: its oracles, what is asked of the two remainders.
-/
import Derived.Test.YtiigcedfkkaaiaaGreatDoorQ9
import Derived.Test.YtiigcedfkkaaiaaGreatDoorQ35
import Derived.Test.YtiigcedfkkaaiaaGreatDoorQ37
set_option linter.all false
namespace Go.Proofs.YtiigcedfkkaaiaaGreatDoor
open Go.Clo
def awakeO : O := fun args H nx => match args with
  | [] => some (.bool true, H, nx)
  | _ => none
noncomputable def beginO : O := litO [] [] 0 r4V r4L r4N
noncomputable def orc3 : Orc := fun f => cond (Nat.beq f 4) (some beginO) (cond (Nat.beq f 12) (some awakeO) (orc1 f))
theorem beginO_ok {args : List Value} {H : Heap} {nx : Nat} {v : Value} {H' : Heap} {nx' : Nat} (h : beginO args H nx = some (v, H', nx')) : CS Tryz.prog 4 args H nx v H' nx' :=
  litO_ok begin_cs rfl h
set_option maxRecDepth 100000 in
theorem orc3_ok : OrcOK Tryz.prog orc3 := by
  intro f o h args H nx v H' nx' ho
  unfold orc3 at h
  cases h1 : Nat.beq f 4 with
  | true => rw [h1] at h; cases h; rw [Nat.eq_of_beq_eq_true h1]; exact beginO_ok ho
  | false =>
    rw [h1] at h
    simp only [cond_false] at h
    cases h2 : Nat.beq f 12 with
    | true =>
      rw [h2] at h; cases h; rw [Nat.eq_of_beq_eq_true h2]
      unfold awakeO at ho
      split at ho
      · cases ho; exact awake_cs H nx
      · cases ho
    | false => rw [h2] at h; exact orc1_ok f o h args H nx v H' nx' ho
noncomputable def call3 : PCall := callD (β := Prop) Tryz.prog orc3 dok 200
theorem callP_ok3 (n : Nat) : CallOK Tryz.prog (callD (β := Prop) Tryz.prog orc3 dok n) := callD_sound mixed namesOK orc3_ok dok_ok n
set_option maxRecDepth 100000 in
theorem call3_ok : CallOK Tryz.prog call3 := by unfold call3; exact callP_ok3 200
/-- The first remainder is n; the second is any. -/
def fsN (n : Nat) : Nat → Nat → (Nat → Prop) → Prop := fun t m g =>
  cond (Nat.beq t 33) (m < 256 ∧ (m % 6 = n ∧ g n)) (m < 256 ∧ ((m % 6 = 0 → g 0) ∧ ((m % 6 = 1 → g 1) ∧ ((m % 6 = 2 → g 2) ∧ ((m % 6 = 3 → g 3) ∧ ((m % 6 = 4 → g 4) ∧ (m % 6 = 5 → g 5)))))))
theorem fsN_ok (n : Nat) : ∀ t m g, fsN n t m g → g (m % 6) ∧ m < 256 := by
  intro t m g h
  unfold fsN at h
  cases hb : Nat.beq t 33 with
  | true =>
    rw [hb] at h
    obtain ⟨h1, h2, h3⟩ := h
    exact ⟨by rw [h2]; exact h3, h1⟩
  | false =>
    rw [hb] at h
    obtain ⟨h1, g0, g1, g2, g3, g4, g5⟩ := h
    refine ⟨?_, h1⟩
    have : m % 6 = 0 ∨ m % 6 = 1 ∨ m % 6 = 2 ∨ m % 6 = 3 ∨ m % 6 = 4 ∨ m % 6 = 5 := by omega
    rcases this with e | e | e | e | e | e
    · rw [e]; exact g0 e
    · rw [e]; exact g1 e
    · rw [e]; exact g2 e
    · rw [e]; exact g3 e
    · rw [e]; exact g4 e
    · rw [e]; exact g5 e
def yes (v : Value) : Prop := match v with
  | .bool true => True
  | _ => False
noncomputable def lawP (n m c : Nat) : Prop := exF Tryz.prog call3 (fsN n) 3 [.int .u8 (.ofNat m), .int .u8 (.ofNat c)] .leaf 0 yes
def lawQ (n m c : Nat) : Prop := m < 256 ∧ (m % 6 = n ∧ (c < 256 ∧ ((c % 6 = 0 → True) ∧ ((c % 6 = 1 → True) ∧ ((c % 6 = 2 → True) ∧ ((c % 6 = 3 → True) ∧ ((c % 6 = 4 → True) ∧ (c % 6 = 5 → True))))))))
end Go.Proofs.YtiigcedfkkaaiaaGreatDoor
