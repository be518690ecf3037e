/-
  SessionLimits: the law's run at one remainder by 8.
-/
import Derived.Test.YtaiefmkapnekiaaGreatDoorA38
import Derived.Test.YtaiefmkapnekiaaGreatDoorA39
import Derived.Test.YtaiefmkapnekiaaGreatDoorA40
set_option linter.all false
namespace Go.Proofs.YtaiefmkapnekiaaGreatDoor
open Go.Clo
/-- One case for each of eight remainders by 16, from o on. -/
def splitO (o m : Nat) (g : Nat → Prop) : Nat → Prop
  | 0 => True
  | i + 1 => splitO o m g i ∧ (m % 16 = o + i → g (o + i))
theorem splitO_ok {o m : Nat} {g : Nat → Prop} : ∀ {n : Nat}, splitO o m g n → o ≤ m % 16 → m % 16 < o + n → g (m % 16)
  | 0, _, _, h => by omega
  | n + 1, h, h0, hlt => by
    by_cases e : m % 16 = o + n
    · rw [e]; exact h.2 e
    · exact splitO_ok h.1 h0 (by omega)
def splitQ (o m : Nat) : Nat → Prop
  | 0 => True
  | i + 1 => splitQ o m i ∧ (m % 16 = o + i → (o + i < 256 ∧ True))
theorem splitQ_all {o m : Nat} (ho : o ≤ 8) : ∀ n, n ≤ 8 → splitQ o m n
  | 0, _ => trivial
  | n + 1, h => ⟨splitQ_all ho n (by omega), fun _ => ⟨by omega, trivial⟩⟩
noncomputable def givL (n o : Nat) : Giv := ⟨fun a b g => match a, b with
  | .int .u8 (.ofNat m), .int .u8 (.ofNat q) => cond (Nat.beq q 8) (m % 8 = n ∧ g (.int .u8 (.ofNat n))) (cond (Nat.beq q 16) ((o ≤ m % 16 ∧ m % 16 < o + 8) ∧ splitO o m (fun i => fN i fun i => g (.int .u8 (.ofNat i))) 8) False)
  | _, _ => False, fun kd a g => match kd, a with
  | .i64, .int .u8 (.ofNat m) => m < 256 ∧ g (.int .i64 (.ofNat m))
  | _, _ => False⟩
theorem givL_ok (n o : Nat) : GivOK (givL n o) := by
  refine ⟨fun a b g h => ?_, fun kd a g h => ?_⟩
  · simp only [givL] at h
    split at h
    · rename_i m q
      cases hq : Nat.beq q 8 with
      | true =>
        rw [hq] at h
        have := Nat.eq_of_beq_eq_true hq
        subst this
        obtain ⟨h1, h2⟩ := h
        refine ⟨_, h2, fun k hk => rem_given .u8 (by omega) k ?_⟩
        rw [h1]; exact hk
      | false =>
        rw [hq] at h
        simp only [cond_false] at h
        cases hq2 : Nat.beq q 16 with
        | false => rw [hq2] at h; exact h.elim
        | true =>
          rw [hq2] at h
          have := Nat.eq_of_beq_eq_true hq2
          subst this
          have h1 := splitO_ok h.2 h.1.1 h.1.2
          rw [fN_eq] at h1
          exact ⟨_, h1, fun k hk => rem_given .u8 (by omega) k hk⟩
    · exact h.elim
  · simp only [givL] at h
    split at h
    · rename_i m
      exact ⟨_, h.2, fun T H x k hx hk => conv_given (wrap_i64 h.1) T H x k hx hk⟩
    · exact h.elim
noncomputable def callL : PCall := callW cMaO cRaO
set_option maxRecDepth 100000 in
theorem callL_ok : CallOK Tryz.prog callL := callW_ok @cMa_ok @cRa_ok
noncomputable def lawL (n o m c : Nat) : Prop := exF Tryz.prog callL (givL n o) 3 [.int .u8 (.ofNat m), .int .u8 (.ofNat c)] .leaf 0 yes
def lawQ (n o m c : Nat) : Prop := m % 8 = n ∧ (n < 256 ∧ ((o ≤ c % 16 ∧ c % 16 < o + 8) ∧ splitQ o c 8))
theorem lawQ_ok {n o m c : Nat} (h : m % 8 = n) (ho : o ≤ 8) (h1 : o ≤ c % 16) (h2 : c % 16 < o + 8) : lawQ n o m c := ⟨h, by omega, ⟨h1, h2⟩, splitQ_all ho 8 (Nat.le_refl 8)⟩
end Go.Proofs.YtaiefmkapnekiaaGreatDoor
