/-
  The closures that planner.Make and planner.Run defer: where nothing panics they change nothing.
-/
import Derived.Test.YtaiefmkapnekiaaGreatDoorH16
import Derived.Test.YtaiefmkapnekiaaGreatDoorH20
import Derived.Test.YtaiefmkapnekiaaGreatDoorH4
import Derived.Tactics
import Derived.Tactics2
import Derived.Recover
import Derived.Laws.Pointers
set_option linter.all false
namespace Go.Proofs.YtaiefmkapnekiaaGreatDoor
open Go.Clo
theorem neq_nil (w : World) (x y : Operand) : (eqGuard .neq 20 x (.const .nilIface) .nilIface .nilIface).run Tryz.prog w = .ok () w := by cases x <;> rfl
theorem neq_nil2 (w : World) : (binOp .neq 20 .nilIface .nilIface).run Tryz.prog w = .ok (.bool false) w := by
  have h0 : ∀ d, (Op.equalIn (d + 1) 20 .nilIface .nilIface).run Tryz.prog w = .ok true w := fun d => by simp [Op.equalIn, run_underlying Tryz.underlying20]
  have := h0 9999
  have e : binOp .neq 20 .nilIface .nilIface = (do let r ← Op.equalIn (9999 + 1) 20 .nilIface .nilIface; pure (.bool !r) : Sem Value) := rfl
  rw [e]; simp only [Sem.run_bind, this, Result.andThen_ok]; rfl
theorem idle35 (a b : Value) (w : World) : CallsD Tryz.prog 121 #[a, b] .returning w fun e u' w' => u' = .returning ∧ e = .returned (.tuple #[]) ∧ w' = w := by
  refine callsD_of_wpS Tryz.func121 rfl fun c₀ cs hu => ?_
  apply wpS_seq
  apply wpS_region
  simp [wpOpsS, go_sem, recoverD, hu, Tryz.ntmps121, Exit.thenS]
  apply wpS_seq
  apply wpS_region
  simp [wpOpsS, go_sem, hu, Exit.thenS, neq_nil, neq_nil2]
  refine wpS_cond (t := false) (by simp [Act.eval, Array.replicate]) ?_
  simp only [Bool.false_eq_true, if_false]
  refine wpS_of_wp (wp_skip ?_)
  cases c₀
  simp_all [bodyPostS, results, Tryz.results121]
theorem idle50 (a b c : Value) (w : World) : CallsD Tryz.prog 133 #[a, b, c] .returning w fun e u' w' => u' = .returning ∧ e = .returned (.tuple #[]) ∧ w' = w := by
  refine callsD_of_wpS Tryz.func133 rfl fun c₀ cs hu => ?_
  apply wpS_seq
  apply wpS_region
  simp [wpOpsS, go_sem, recoverD, hu, Tryz.ntmps133, Exit.thenS]
  apply wpS_seq
  apply wpS_region
  simp [wpOpsS, go_sem, hu, Exit.thenS, neq_nil, neq_nil2]
  refine wpS_cond (t := false) (by simp [Act.eval, Array.replicate]) ?_
  simp only [Bool.false_eq_true, if_false]
  refine wpS_of_wp (wp_skip ?_)
  cases c₀
  simp_all [bodyPostS, results, Tryz.results133]
theorem dok_ok : DfrOK Tryz.prog dok := by
  intro g m h
  unfold dok at h
  rw [Bool.or_eq_true, Bool.and_eq_true, Bool.and_eq_true] at h
  rcases h with ⟨h1, h2⟩ | ⟨h1, h2⟩
  · have h1 := Nat.eq_of_beq_eq_true h1
    have h2 := Nat.eq_of_beq_eq_true h2
    subst h1; subst h2
    refine ⟨⟨_, _, Tryz.func121, rfl, by kernel_rfl⟩, fun args w hs => ?_⟩
    obtain ⟨a, b, rfl⟩ : ∃ a b, args = #[a, b] := by
      have : args.toList.length = 2 := by simpa using hs
      match hy : args.toList, this with
      | [p, q], _ => exact ⟨p, q, by rw [← Array.toArray_toList (xs := args), hy]⟩
    exact idle35 a b w
  · have h1 := Nat.eq_of_beq_eq_true h1
    have h2 := Nat.eq_of_beq_eq_true h2
    subst h1; subst h2
    refine ⟨⟨_, _, Tryz.func133, rfl, by kernel_rfl⟩, fun args w hs => ?_⟩
    obtain ⟨a, b, c, rfl⟩ : ∃ a b c, args = #[a, b, c] := by
      have : args.toList.length = 3 := by simpa using hs
      match hy : args.toList, this with
      | [p, q, r], _ => exact ⟨p, q, r, by rw [← Array.toArray_toList (xs := args), hy]⟩
    exact idle50 a b c w
end Go.Proofs.YtaiefmkapnekiaaGreatDoor
