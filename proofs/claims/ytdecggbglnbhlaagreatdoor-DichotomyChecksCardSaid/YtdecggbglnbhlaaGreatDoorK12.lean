/-
  'awake' of chapter 33 returns true: one run of the closed executor, which takes connex.walk's answer from its contract.
-/
import Derived.Test.YtdecggbglnbhlaaGreatDoorK11
set_option linter.unusedSimpArgs false
set_option linter.unusedVariables false
set_option linter.unusedSectionVars false
namespace Go.Proofs.YtdecggbglnbhlaaGreatDoor
open Go.Clo

def isInt (k : IntKind) (n : Nat) : Value → Bool
  | .int k' (.ofNat m) => eqK k k' && Nat.beq m n
  | _ => false
theorem eqK_true {a b : IntKind} (h : eqK a b = true) : a = b := by cases a <;> cases b <;> first | rfl | cases h
theorem isInt_eq {k : IntKind} {n : Nat} : ∀ {v : Value}, isInt k n v = true → v = .int k (n : Int)
  | .int k' (.ofNat m), h => by
    simp only [isInt, Bool.and_eq_true] at h
    rw [← eqK_true h.1, Nat.eq_of_beq_eq_true h.2]; rfl
def allInt (k : IntKind) : List Nat → List Value → Bool
  | [], [] => true
  | n :: ns, v :: vs => isInt k n v && allInt k ns vs
  | _, _ => false
theorem allInt_eq {k : IntKind} : ∀ {ns : List Nat} {vs : List Value}, allInt k ns vs = true → vs = ns.map fun (n : Nat) => Value.int k (n : Int)
  | [], [], _ => rfl
  | n :: ns, v :: vs, h => by
    simp only [allInt, Bool.and_eq_true] at h
    rw [List.map_cons, isInt_eq h.1, ← allInt_eq h.2]
def isWalk : List Value → Bool
  | [.agg ⟨l⟩, a, b, c, d] => allInt .u32 nbL l && (isInt .u32 4 a && (isInt .i64 0 b && (isInt .u32 2 c && isInt .i64 2 d)))
  | _ => false
theorem isWalk_eq : ∀ {args : List Value}, isWalk args = true → args = walkArgs
  | [.agg ⟨l⟩, a, b, c, d], h => by
    simp only [isWalk, Bool.and_eq_true] at h
    obtain ⟨h1, h2, h3, h4, h5⟩ := h
    rw [allInt_eq h1, isInt_eq h2, isInt_eq h3, isInt_eq h4, isInt_eq h5]; rfl
noncomputable def walkO (args : List Value) (H : Heap) (nx : Nat) : Option (Value × Heap × Nat) :=
  cond (isWalk args) (some (.slice (some ⟨nx, 0, none⟩) 3 3, hs H nx (some (.cells pathL 1)), nx + 1)) none
noncomputable def orcW : Orc := fun f => cond (Nat.beq f 52) (some walkO) none
theorem enters52 : Go.Clo.Enters Tryz.prog 52 := ⟨_, _, Tryz.func52, rfl, by kernel_rfl⟩
theorem walk_args {F : FM} {args' : List Value} (h : VL F walkArgs args') : args' = walkArgs := by
  cases h with
  | cons h0 h =>
  cases h with
  | cons h1 h =>
  cases h with
  | cons h2 h =>
  cases h with
  | cons h3 h =>
  cases h with
  | cons h4 h =>
  cases h
  cases h1; cases h2; cases h3; cases h4
  obtain ⟨x', rfl, hx⟩ := h0.agg_inv
  have := flatL_eq hx (by decide)
  obtain ⟨l⟩ := x'
  simp only at this
  subst this
  rfl
theorem orcW_ok : OrcOK Tryz.prog orcW := by
  intro f o hf args H nx v H' nx' ho
  unfold orcW at hf
  cases hb : Nat.beq f 52 with
  | false => rw [hb] at hf; cases hf
  | true =>
    rw [hb] at hf
    cases hf
    have hf52 := Nat.eq_of_beq_eq_true hb
    subst hf52
    unfold walkO at ho
    cases hw : isWalk args with
    | false => rw [hw] at ho; cases ho
    | true =>
      rw [hw] at ho
      cases ho
      have ea := isWalk_eq hw
      subst ea
      refine ⟨enters52, fun F args' w hh hl => ?_⟩
      have ea := walk_args hl
      subst ea
      refine (walk_calls w hh.gl.1).mono fun e w' ⟨v, he, hrow, hb⟩ => ?_
      rcases hrow.2 with ⟨_, h0⟩ | ⟨g, cp, cur, rfl, hg, hc, h1, _, h3, h4⟩
      · omega
      · obtain ⟨F', hvr, hst⟩ := Stp.row (xs := pathL) hh hb hg hc h1 (by simpa using h3) (by simpa [pathL] using h4) rfl
        exact ⟨_, F', he, hvr, hst⟩
set_option maxRecDepth 1000000 in
theorem awake_run : runA Tryz.prog orcW 100 6 [] = some (.bool true) := by kernel_rfl
theorem awake6 (H : Heap) (nx : Nat) : Ans Tryz.prog 6 [] H nx fun v H' nx' => .bool true = v ∧ H = H' ∧ nx = nx' := ans_of_run mixed namesOK orcW_ok awake_run rfl rfl H nx
end Go.Proofs.YtdecggbglnbhlaaGreatDoor
