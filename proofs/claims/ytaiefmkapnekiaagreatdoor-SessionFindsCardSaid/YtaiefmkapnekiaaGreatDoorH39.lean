/-
  SessionFinds: what is given to the law's runs.
-/
import Derived.Test.YtaiefmkapnekiaaGreatDoorH38
import Derived.WalkKit
set_option linter.all false
namespace Go.Proofs.YtaiefmkapnekiaaGreatDoor
open Go.Clo
/-- An integer is one of the few that the database holds, or lies below or above them. -/
def splitI (x : Int) (g : Int → Prop) : Prop :=
  (x = Int.ofNat 0 → g (Int.ofNat 0)) ∧ ((x = Int.ofNat 1 → g (Int.ofNat 1)) ∧ ((x = Int.ofNat 2 → g (Int.ofNat 2)) ∧ ((x = Int.ofNat 3 → g (Int.ofNat 3)) ∧
  ((∀ k : Nat, x = Int.ofNat (Nat.succ (Nat.succ (Nat.succ (Nat.succ k)))) → g (Int.ofNat (Nat.succ (Nat.succ (Nat.succ (Nat.succ k)))))) ∧ ((x = Int.negSucc 0 → g (Int.negSucc 0)) ∧ (∀ k : Nat, x = Int.negSucc (Nat.succ k) → g (Int.negSucc (Nat.succ k))))))))
theorem splitI_ok {x : Int} {g : Int → Prop} (h : splitI x g) : g x := by
  obtain ⟨h0, h1, h2, h3, h4, h5, h6⟩ := h
  match x with
  | .ofNat 0 => exact h0 rfl
  | .ofNat 1 => exact h1 rfl
  | .ofNat 2 => exact h2 rfl
  | .ofNat 3 => exact h3 rfl
  | .ofNat (k + 4) => exact h4 k rfl
  | .negSucc 0 => exact h5 rfl
  | .negSucc (k + 1) => exact h6 k rfl
def splitJ (x : Int) (Z : Prop) : Prop :=
  (x = Int.ofNat 0 → Z) ∧ ((x = Int.ofNat 1 → Z) ∧ ((x = Int.ofNat 2 → Z) ∧ ((x = Int.ofNat 3 → Z) ∧
  ((∀ k : Nat, x = Int.ofNat (Nat.succ (Nat.succ (Nat.succ (Nat.succ k)))) → Z) ∧ ((x = Int.negSucc 0 → Z) ∧ (∀ k : Nat, x = Int.negSucc (Nat.succ k) → Z))))))
theorem splitJ_all {x : Int} {Z : Prop} (h : Z) : splitJ x Z := ⟨fun _ => h, fun _ => h, fun _ => h, fun _ => h, fun _ _ => h, fun _ => h, fun _ _ => h⟩
noncomputable def givF (n : Nat) : Giv := ⟨fun a b g => match a, b with
  | .int .i64 (.ofNat m), .int .i64 (.ofNat q) => cond (Nat.beq q 5) (m % 5 = n ∧ g (.int .i64 (.ofNat n))) (cond (Nat.beq q 2) (fN (Nat.mod m 2) fun r => g (.int .i64 (.ofNat r))) False)
  | .int .u64 (.ofNat m), .int .u64 (.ofNat q) => cond (Nat.blt 0 q) (splitN q m (fun i => g (.int .u64 (.ofNat i))) q) False
  | _, _ => False, fun kd a g => match kd, a with
  | .i64, .int .u8 (.ofNat m) => m < 256 ∧ g (.int .i64 (.ofNat m))
  | .u64, .int .u8 (.ofNat m) => m < 256 ∧ g (.int .u64 (.ofNat m))
  | .i64, .int .i8 x => (-128 ≤ x ∧ x < 128) ∧ splitI x (fun z => g (.int .i64 z))
  | _, _ => False⟩
theorem wrap_i8 {x : Int} (h : -128 ≤ x ∧ x < 128) : IntKind.i64.wrap x = x := by
  simp only [IntKind.wrap, IntKind.signed, IntKind.bits]; simp; omega
theorem givF_ok (n : Nat) : GivOK (givF n) := by
  refine ⟨fun a b g h => ?_, fun kd a g h => ?_⟩
  · simp only [givF] at h
    split at h
    · rename_i m q
      cases hq : Nat.beq q 5 with
      | true =>
        rw [hq] at h
        have := Nat.eq_of_beq_eq_true hq
        subst this
        obtain ⟨h1, h2⟩ := h
        refine ⟨_, h2, fun k hk => rem_given .i64 (by omega) k ?_⟩
        rw [h1]; exact hk
      | false =>
        rw [hq] at h
        simp only [cond_false] at h
        cases hq2 : Nat.beq q 2 with
        | false => rw [hq2] at h; exact h.elim
        | true =>
          rw [hq2] at h
          have := Nat.eq_of_beq_eq_true hq2
          subst this
          simp only [cond_true, fN_eq] at h
          exact ⟨_, h, fun k hk => rem_given .i64 (by omega) k hk⟩
    · rename_i m q
      cases hq : Nat.blt 0 q with
      | false => rw [hq] at h; exact h.elim
      | true =>
        rw [hq] at h
        have h0 : 0 < q := by rw [Nat.blt_eq] at hq; exact hq
        exact ⟨_, splitN_ok h (Nat.mod_lt _ h0), fun k hk => rem_given .u64 h0 k hk⟩
    · exact h.elim
  · simp only [givF] at h
    split at h
    · exact ⟨_, h.2, fun T H x k hx hk => conv_given (wrap_i64 h.1) T H x k hx hk⟩
    · exact ⟨_, h.2, fun T H x k hx hk => conv_given (wrap_u64 h.1) T H x k hx hk⟩
    · exact ⟨_, splitI_ok h.2, fun T H x k hx hk => conv_given (wrap_i8 h.1) T H x k hx hk⟩
    · exact h.elim
def argsF (q k : Nat) (x y : Int) : List Value := [.int .u8 (.ofNat q), .int .u8 (.ofNat k), .agg ⟨[.int .i8 x, .int .i8 y]⟩]
/-- What is asked where the head has so many columns. -/
def colQ (x y : Int) : Nat → Prop
  | 0 => True
  | 1 => (-128 ≤ x ∧ x < 128) ∧ splitJ x True
  | _ => (-128 ≤ x ∧ x < 128) ∧ splitJ x ((-128 ≤ y ∧ y < 128) ∧ splitJ y True)
def lawQ (n many cols q k : Nat) (x y : Int) : Prop := q < 256 ∧ (q % 5 = n ∧ (k < 256 ∧ splitT many k (fun _ => colQ x y cols) many))
theorem colQ_ok {x y : Int} (hx : -128 ≤ x ∧ x < 128) (hy : -128 ≤ y ∧ y < 128) : ∀ cols, colQ x y cols
  | 0 => trivial
  | 1 => ⟨hx, splitJ_all trivial⟩
  | _ + 2 => ⟨hx, splitJ_all ⟨hy, splitJ_all trivial⟩⟩
theorem lawQ_ok {n q k : Nat} {x y : Int} (many cols : Nat) (hq : q < 256) (hk : k < 256) (hx : -128 ≤ x ∧ x < 128) (hy : -128 ≤ y ∧ y < 128) (h : q % 5 = n) : lawQ n many cols q k x y :=
  ⟨hq, h, hk, splitT_all _ fun _ _ => colQ_ok hx hy cols⟩
/-- begin, behind the argument's block: under other names. -/
noncomputable def beginF : O := embR [] [] 0 r4V r4L r4N
set_option maxRecDepth 100000 in
theorem beginF_ok : OK1 5 beginF := fun h =>
  embR_ok (by rw [List.append_nil]; exact begin_cs) (by kernel_rfl) h
/-- No integer is no number: it equals itself, known or not. -/
def nanO : O := fun args H nx => match args with
  | [.int .i64 _] => some (.bool false, H, nx)
  | _ => none
theorem nan_w (x : Int) (w : World) : Calls Tryz.prog 476 #[.int .i64 x] w fun e w' => e = .returned (.bool false) ∧ w' = w := by
  go_enter Tryz.func476, Tryz.ntmps476
  go_wp2
  go_ret
  exact ⟨by simp, rfl⟩
theorem enNan : Go.Clo.Enters Tryz.prog 476 := ⟨_, _, Tryz.func476, rfl, by kernel_rfl⟩
theorem nanO_ok : OK1 476 nanO := by
  intro args H nx v H' nx' h
  unfold nanO at h
  split at h
  · rename_i x
    cases h
    exact cs_flatG enNan rfl rfl (fun w _ => (nan_w x w).mono fun e w' h => ⟨h.1, by rw [h.2]; exact Go.RowKit.Below.refl _ w⟩) H nx
  · cases h
noncomputable def orcF (mk rn : O) : Orc := fun f => cond (Nat.beq f 5) (some beginF) (cond (Nat.beq f 476) (some nanO) (orcW mk rn f))
set_option maxRecDepth 100000 in
theorem orcF_ok {mk rn : O} (hm : OK1 83 mk) (hr : OK1 85 rn) : OrcOK Tryz.prog (orcF mk rn) := by
  intro f o h args H nx v H' nx' ho
  unfold orcF at h
  cases h1 : Nat.beq f 5 with
  | true => rw [h1] at h; cases h; rw [Nat.eq_of_beq_eq_true h1]; exact beginF_ok ho
  | false =>
    rw [h1] at h
    simp only [cond_false] at h
    cases h2 : Nat.beq f 476 with
    | true => rw [h2] at h; cases h; rw [Nat.eq_of_beq_eq_true h2]; exact nanO_ok ho
    | false => rw [h2] at h; exact orcW_ok hm hr f o h args H nx v H' nx' ho
noncomputable def callF (mk rn : O) : PCall := callD (β := Prop) Tryz.prog (orcF mk rn) dok 200
theorem callF_okn {mk rn : O} (hm : OK1 83 mk) (hr : OK1 85 rn) (n : Nat) : CallOK Tryz.prog (callD (β := Prop) Tryz.prog (orcF mk rn) dok n) := callD_sound mixed namesOK (orcF_ok hm hr) dok_ok n
set_option maxRecDepth 100000 in
theorem callF_ok {mk rn : O} (hm : OK1 83 mk) (hr : OK1 85 rn) : CallOK Tryz.prog (callF mk rn) := by unfold callF; exact callF_okn hm hr 200
noncomputable def lawP (mk rn : O) (n q k : Nat) (x y : Int) : Prop := exF Tryz.prog (callF mk rn) (givF n) 4 (argsF q k x y) .leaf 0 yes
theorem vl_args (F : FM) (q k : Nat) (x y : Int) : VL F (argsF q k x y) (argsF q k x y) := by
  refine .cons (.int _ _) (.cons (.int _ _) (.cons (.agg rfl fun i v v' h1 h2 => ?_) .nil))
  have e : v = v' := Option.some.inj (h1.symm.trans h2)
  subst e
  have : v ∈ [Value.int .i8 x, Value.int .i8 y] := by
    have := Array.mem_of_getElem? h1
    simpa using this
  rcases List.mem_cons.1 this with rfl | this
  · exact .int _ _
  · rw [List.mem_singleton.1 this]; exact .int _ _
set_option maxRecDepth 100000 in
theorem calls_lawP {mk rn : O} (hm : OK1 83 mk) (hr : OK1 85 rn) {n q k : Nat} {x y : Int} (h : lawP mk rn n q k x y) (w : World) (hg : GlW w) :
    Calls Tryz.prog 4 (argsF q k x y).toArray w fun e w' => e = .returned (.bool true) ∧ RowKit.Below w.heap.size w w' := by
  unfold lawP at h
  obtain ⟨v, H', nx', hv, hcs⟩ := exF_sound mixed namesOK (callF_ok hm hr) (givF_ok n) h
  exact calls_of_run (vl_args _ q k x y) hv hcs w hg
end Go.Proofs.YtaiefmkapnekiaaGreatDoor
