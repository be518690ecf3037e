/-
  The closed executor: runs one behind the other, each of which only adds to the heap; what one kernel's look at them says.
-/
import Derived.Test.YtaiefmkapnekiaaGreatDoorH4
set_option linter.all false
namespace Go.Clo

/-- The heap made anew, up to a name. -/
noncomputable def rebF {β : Type} (H : Heap) (k : Heap → β) (n : Nat) : Nat → Heap → β :=
  @Nat.rec (fun _ => Nat → Heap → β) (fun _ acc => k acc) (fun _ ih i acc => @Option.rec Blk (fun _ => β) (forceN (i + 1) fun i => ih i acc) (fun b => hsK acc i (some b) fun acc => forceN (i + 1) fun i => ih i acc) (getH H i)) n
theorem rebF_eq {β : Type} (H : Heap) : ∀ (n i : Nat) (acc : Heap), (∀ j, i ≤ j → getH acc j = none) → ∃ A, (∀ k : Heap → β, rebF H k n i acc = k A) ∧ ∀ j, getH A j = if i ≤ j ∧ j < i + n then getH H j else getH acc j
  | 0, i, acc, h => ⟨acc, fun k => rfl, fun j => by rw [if_neg (by omega)]⟩
  | n + 1, i, acc, h => by
    have e : ∀ k : Heap → β, rebF H k (n + 1) i acc = @Option.rec Blk (fun _ => β) (forceN (i + 1) fun i => rebF H k n i acc) (fun b => hsK acc i (some b) fun acc => forceN (i + 1) fun i => rebF H k n i acc) (getH H i) := fun k => rfl
    cases hg : getH H i with
    | none =>
      obtain ⟨A, h1, h2⟩ := rebF_eq (β := β) H n (i + 1) acc (fun j hj => h j (by omega))
      refine ⟨A, fun k => by rw [e, hg]; dsimp only; rw [forceN_eq, h1], fun j => ?_⟩
      rw [h2]
      by_cases hj : j = i
      · subst hj; rw [if_neg (by omega), if_pos (by omega), hg]; exact h j (Nat.le_refl _)
      · by_cases hj2 : i + 1 ≤ j ∧ j < i + 1 + n
        · rw [if_pos hj2, if_pos (by omega)]
        · rw [if_neg hj2, if_neg (by omega)]
    | some b =>
      obtain ⟨A, h1, h2⟩ := rebF_eq (β := β) H n (i + 1) (hs acc i (some b)) (fun j hj => by rw [getH_hs, if_neg (by omega)]; exact h j (by omega))
      refine ⟨A, fun k => by rw [e, hg]; dsimp only; rw [hsK_eq, forceN_eq, h1], fun j => ?_⟩
      rw [h2, getH_hs]
      by_cases hj : j = i
      · subst hj; rw [if_neg (by omega), if_pos rfl, if_pos (by omega), hg]
      · rw [if_neg hj]
        by_cases hj2 : i + 1 ≤ j ∧ j < i + 1 + n
        · rw [if_pos hj2, if_pos (by omega)]
        · rw [if_neg hj2, if_neg (by omega)]

/-- All names in the heap are below n. -/
noncomputable def lowH (H : Heap) (n m : Nat) : Nat → Bool :=
  @Nat.rec (fun _ => Nat → Bool) (fun _ => true) (fun _ ih i => @Option.rec Blk (fun _ => Bool) (forceN (i + 1) ih) (fun b => cond (lowB n b) (forceN (i + 1) ih) false) (getH H i)) m
theorem lowH_ok {H : Heap} {n : Nat} : ∀ {m i : Nat}, lowH H n m i = true → ∀ j b, i ≤ j → j < i + m → getH H j = some b → lowB n b = true
  | 0, i, _, j, b, h1, h2, _ => by omega
  | m + 1, i, h, j, b, h1, h2, hb => by
    have e : lowH H n (m + 1) i = @Option.rec Blk (fun _ => Bool) (forceN (i + 1) (lowH H n m)) (fun b => cond (lowB n b) (forceN (i + 1) (lowH H n m)) false) (getH H i) := rfl
    rw [e] at h
    cases hg : getH H i with
    | none =>
      rw [hg] at h; dsimp only at h; rw [forceN_eq] at h
      by_cases hj : j = i
      · subst hj; rw [hg] at hb; cases hb
      · exact lowH_ok h j b (by omega) (by omega) hb
    | some b0 =>
      rw [hg] at h; dsimp only at h
      cases hl : lowB n b0 with
      | false => rw [hl] at h; cases h
      | true =>
        rw [hl] at h; dsimp only [cond_true] at h; rw [forceN_eq] at h
        by_cases hj : j = i
        · subst hj; rw [hg] at hb; cases hb; exact hl
        · exact lowH_ok h j b (by omega) (by omega) hb
def beqE : List MapEntry → List MapEntry → Bool
  | [], [] => true
  | a :: x, b :: y => veq 65536 a.key b.key && veq 65536 a.val b.val && Nat.beq a.born b.born && beqE x y
  | _, _ => false
theorem beqE_eq : ∀ {x y : List MapEntry}, beqE x y = true → x = y
  | [], [], _ => rfl
  | [], _ :: _, h => by cases h
  | _ :: _, [], h => by cases h
  | a :: x, b :: y, h => by
    simp only [beqE, Bool.and_eq_true] at h
    obtain ⟨⟨⟨h1, h2⟩, h3⟩, h4⟩ := h
    have h1 := veq_eq h1
    have h2 := veq_eq h2
    have h3 := Nat.eq_of_beq_eq_true h3
    cases a; cases b
    simp only at h1 h2 h3
    rw [beqE_eq h4, h1, h2, h3]
def beqO : Option Nat → Option Nat → Bool
  | none, none => true
  | some a, some b => Nat.beq a b
  | _, _ => false
theorem beqO_eq {x y : Option Nat} (h : beqO x y = true) : x = y := by
  unfold beqO at h
  split at h
  · rfl
  · rw [Nat.eq_of_beq_eq_true h]
  · cases h
def beqB : Blk → Blk → Bool
  | .cells c s, .cells c' s' => veqs 65536 c c' && Nat.beq s s'
  | .map e k, .map e' k' => beqE e e' && Nat.beq k k'
  | .iter m s n, .iter m' s' n' => beqO m m' && (Nat.beq s s' && beqO n n')
  | _, _ => false
theorem beqB_eq {x y : Blk} (h : beqB x y = true) : x = y := by
  unfold beqB at h
  split at h
  · rw [Bool.and_eq_true] at h
    rw [(eqFn (a := undef) (b := undef) 65536).2 _ _ h.1, Nat.eq_of_beq_eq_true h.2]
  · rw [Bool.and_eq_true] at h
    rw [beqE_eq h.1, Nat.eq_of_beq_eq_true h.2]
  · simp only [Bool.and_eq_true] at h
    rw [beqO_eq h.1, Nat.eq_of_beq_eq_true h.2.1, beqO_eq h.2.2]
  · cases h
noncomputable def sameH (H H1 : Heap) (m : Nat) : Nat → Bool :=
  @Nat.rec (fun _ => Nat → Bool) (fun _ => true) (fun _ ih i => @Option.rec Blk (fun _ => Bool) (@Option.rec Blk (fun _ => Bool) (forceN (i + 1) ih) (fun _ => false) (getH H1 i)) (fun b => @Option.rec Blk (fun _ => Bool) false (fun b1 => cond (beqB b b1) (forceN (i + 1) ih) false) (getH H1 i)) (getH H i)) m
theorem sameH_ok {H H1 : Heap} : ∀ {m i : Nat}, sameH H H1 m i = true → ∀ j, i ≤ j → j < i + m → getH H1 j = getH H j
  | 0, i, _, j, h1, h2 => by omega
  | m + 1, i, h, j, h1, h2 => by
    have e : sameH H H1 (m + 1) i = @Option.rec Blk (fun _ => Bool) (@Option.rec Blk (fun _ => Bool) (forceN (i + 1) (sameH H H1 m)) (fun _ => false) (getH H1 i)) (fun b => @Option.rec Blk (fun _ => Bool) false (fun b1 => cond (beqB b b1) (forceN (i + 1) (sameH H H1 m)) false) (getH H1 i)) (getH H i) := rfl
    rw [e] at h
    have key : getH H1 i = getH H i ∧ sameH H H1 m (i + 1) = true := by
      cases hg : getH H i with
      | none =>
        rw [hg] at h; dsimp only at h
        cases hg1 : getH H1 i with
        | none => rw [hg1] at h; dsimp only at h; rw [forceN_eq] at h; exact ⟨rfl, h⟩
        | some b1 => rw [hg1] at h; cases h
      | some b =>
        rw [hg] at h; dsimp only at h
        cases hg1 : getH H1 i with
        | none => rw [hg1] at h; cases h
        | some b1 =>
          rw [hg1] at h; dsimp only at h
          cases hb : beqB b b1 with
          | false => rw [hb] at h; cases h
          | true => rw [hb] at h; dsimp only [cond_true] at h; rw [forceN_eq] at h; exact ⟨by rw [beqB_eq hb], h⟩
    by_cases hj : j = i
    · subst hj; exact key.1
    · exact sameH_ok key.2 j (by omega) (by omega)

/-- A run only adds to the heap. -/
structure Adds (H : Heap) (n : Nat) (v : Value) (H1 : Heap) (n1 : Nat) : Prop where
  le : n ≤ n1
  keep : ∀ i, i < n → getH H1 i = getH H i
  low : ∀ i b, getH H1 i = some b → lowB n1 b = true
  top : ∀ i, n1 ≤ i → getH H1 i = none
  val : lowV 16 n1 v = true
theorem CS.low {P : Program} {f : FuncId} {args : List Value} {H : Heap} {nx : Nat} {v : Value} {H' H2 : Heap} {nx' : Nat} (h : CS P f args H nx v H' nx') (h1 : ∀ i, i < nx' → getH H2 i = getH H' i) (h2 : ∀ i, nx' ≤ i → getH H2 i = none) : CS P f args H nx v H2 nx' := by
  refine ⟨h.1, fun F args' w hr hv => (h.2 F args' w hr hv).mono fun e w' ⟨v', F', he, hvr, hst⟩ => ⟨v', F', he, hvr, ?_⟩⟩
  have e : ∀ i, getH H2 i = getH H' i := fun i => by
    rcases Nat.lt_or_ge i nx' with g | g
    · exact h1 i g
    · rw [h2 i g, hst.hr.top i g]
  exact ⟨hst.le, hst.ext, hst.os, hst.tape, hst.output, hst.size, hst.frame, fun b ⟨i, k, t, hi, hg, hrk, hF, eb⟩ => hst.own b ⟨i, k, t, hi, by rw [← e]; exact hg, hrk, hF, eb⟩, fun i hi hn => by rw [e]; exact hst.keep i hi hn, fun i b hg hrb => hst.rom i b (by rw [← e]; exact hg) hrb, hst.hr.sub (fun i b hg => by rw [← e]; exact hg)⟩
/-- A run, and the looks at it. -/
noncomputable def stepC (P : Program) (orc : Orc) (dok : FuncId → Nat → Bool) (f : FuncId) (args : List Value) (H : Heap) (n : Nat) (k : Value → Heap → Nat → Bool) : Bool :=
  callD P orc dok 200 f args H n false fun v H1 n1 => rebF H1 (fun H1 => cond (Nat.ble n n1 && lowV 16 n1 v && lowH H1 n1 n1 0 && sameH H H1 n 0) (k v H1 n1) false) n1 0 .leaf
theorem stepC_inv {P : Program} (hm : P.follows .mixedOrders = true) (hNG : NamesOK P) {orc : Orc} (ho : OrcOK P orc) {dok : FuncId → Nat → Bool} (hdok : DfrOK P dok) {f : FuncId} {args : List Value} {H : Heap} {n : Nat} {k : Value → Heap → Nat → Bool}
    (h : stepC P orc dok f args H n k = true) : ∃ v H1 n1, CS P f args H n v H1 n1 ∧ Adds H n v H1 n1 ∧ k v H1 n1 = true := by
  unfold stepC at h
  rcases callD_sound (β := Bool) hm hNG ho hdok 200 f args H n false (fun v H1 n1 => rebF H1 (fun H1 => cond (Nat.ble n n1 && lowV 16 n1 v && lowH H1 n1 n1 0 && sameH H H1 n 0) (k v H1 n1) false) n1 0 .leaf) with e | ⟨v, H1, n1, e, hcs⟩
  · rw [e] at h; cases h
  · rw [e] at h
    obtain ⟨A, hA1, hA2⟩ := rebF_eq (β := Bool) H1 n1 0 .leaf (fun j _ => getH_leaf j)
    rw [hA1] at h
    cases hc : (Nat.ble n n1 && lowV 16 n1 v && lowH A n1 n1 0 && sameH H A n 0) with
    | false => rw [hc] at h; cases h
    | true =>
      rw [hc] at h
      simp only [Bool.and_eq_true] at hc
      obtain ⟨⟨⟨c1, c2⟩, c3⟩, c4⟩ := hc
      have hle := Nat.le_of_ble_eq_true c1
      have hlow : ∀ i, n1 ≤ i → getH A i = none := fun i hi => by rw [hA2, if_neg (by omega)]; exact getH_leaf i
      have hget : ∀ i, i < n1 → getH A i = getH H1 i := fun i hi => by rw [hA2, if_pos (by omega)]
      refine ⟨v, A, n1, hcs.low hget hlow, ⟨hle, fun i hi => sameH_ok c4 i (by omega) (by omega), fun i b hb => ?_, hlow, c2⟩, h⟩
      have hi : i < n1 := by
        rcases Nat.lt_or_ge i n1 with g | g
        · exact g
        · rw [hlow i g] at hb; cases hb
      exact lowH_ok c3 i b (by omega) (by omega) hb
/-- The same beside another heap. -/
theorem Adds.emb {P : Program} {f : FuncId} {args : List Value} {H0 : Heap} {n0 : Nat} {v : Value} {H1 : Heap} {n1 : Nat} {ρ : Nat → Nat} {H : Heap} {nx : Nat} (hcs : CS P f args H0 n0 v H1 n1) (ha : Adds H0 n0 v H1 n1) (he : Emb ρ H0 n0 H nx)
    (hl : args.all (lowV 16 n0) = true) : ∃ H' nx', CS P f (renL ρ args) H nx (ren (newρ ρ n0 nx) v) H' nx' ∧ nx ≤ nx' ∧ (∀ j, j < nx → getH H' j = getH H j) ∧ Emb (newρ ρ n0 nx) H1 n1 H' nx' := by
  obtain ⟨H', h1, h2, h3⟩ := emb_cs hcs he hl ha.le ha.keep ha.low ha.top ha.val
  exact ⟨H', _, h1, by omega, h2, h3⟩
end Go.Clo
