/-
  The closed executor: a region's operations in whatever order: the state.
-/
import Derived.Test.YtdecggbglnbhlaaGreatDoorCloJ
set_option linter.unusedSimpArgs false
set_option linter.unusedVariables false
set_option linter.unusedSectionVars false
namespace Go.Clo

theorem eqFn {a b : Value} : ∀ (n : Nat), (∀ a b, veq n a b = true → a = b) ∧ (∀ a b, veqs n a b = true → a = b) := by
  intro n
  induction n with
  | zero => exact ⟨fun a b h => by simp [veq] at h, fun a b h => by simp [veqs] at h⟩
  | succ n ih =>
    obtain ⟨ih1, ih2⟩ := ih
    refine ⟨fun a b h => ?_, fun a b h => ?_⟩
    · unfold veq at h
      split at h
      · simp at h; rw [h]
      · rw [Bool.and_eq_true, eqI_eq] at h; rw [eqK_eq h.1]; simp at h; rw [h.2]
      · rw [Bool.and_eq_true] at h; have := Nat.eq_of_beq_eq_true h.2; simp at h; rw [h.1, this]
      · simp at h; rw [h]
      · simp at h; rw [h]
      · rw [Bool.and_eq_true, Bool.and_eq_true] at h
        have e1 := Nat.eq_of_beq_eq_true h.1.2
        have e2 := Nat.eq_of_beq_eq_true h.2
        simp at h; rw [h.1.1, e1, e2]
      · simp at h; rw [h]
      · rfl
      · rfl
      · rw [Bool.and_eq_true, Bool.and_eq_true] at h
        have e1 := Array.toList_inj.1 (ih2 _ _ h.1.2)
        have e2 := Array.toList_inj.1 (ih2 _ _ h.2)
        simp at h; rw [h.1.1, e1, e2]
      · rw [Bool.and_eq_true] at h
        rw [Nat.eq_of_beq_eq_true h.1, ih1 _ _ h.2]
      · rw [Array.toList_inj.1 (ih2 _ _ h)]
      · rw [Array.toList_inj.1 (ih2 _ _ h)]
      · cases h
    · unfold veqs at h
      split at h
      · rfl
      · rw [Bool.and_eq_true] at h
        rw [ih1 _ _ h.1, ih2 _ _ h.2]
      · cases h
theorem veq_eq {n : Nat} {a b : Value} (h : veq n a b = true) : a = b := (eqFn (a := a) (b := b) n).1 a b h

theorem esR_lt : ∀ {l : List Rec} {e : Nat}, e ∈ esR l → e < l.length
  | [], e, h => by simp [esR] at h
  | r :: l, e, h => by
    simp only [esR] at h
    split at h
    · rcases List.mem_cons.1 h with rfl | h
      · simp
      · have := esR_lt h; simp; omega
    · have := esR_lt h; simp; omega
theorem asR_keys : ∀ (l : List Rec), Keys l.length (asR l)
  | [] => trivial
  | r :: l => by
    have ih := asR_keys l
    have up : ∀ {m : List (Nat × Blk)} {a b : Nat}, a ≤ b → Keys a m → Keys b m := by
      intro m
      induction m with
      | nil => intros; trivial
      | cons x m ihm => intro a b hab h; obtain ⟨h1, h2, h3⟩ := h; exact ⟨by omega, h2, ihm hab h3⟩
    have low : ∀ {m : List (Nat × Blk)} {a : Nat}, Keys a m → ∀ q ∈ m, q.1 < a := by
      intro m
      induction m with
      | nil => intro a _ q hq; cases hq
      | cons x m ihm =>
        intro a h q hq
        obtain ⟨h1, h2, h3⟩ := h
        rcases List.mem_cons.1 hq with rfl | hq
        · exact h1
        · exact ihm h3 q hq
    simp only [asR]
    split
    · refine ⟨by simp, fun q hq => ?_, up (by simp) ih⟩
      have := low ih q hq; omega
    · exact up (by simp) ih

/-- A reading stands at every stage at which it may. -/
theorem same_at {P : Program} {ms : List Nat} {N : Nat} {as : List (Nat × Blk)} {r : Rd} {H0 : Heap} : ∀ (rc : List Rec) (later : List Nat), sameRd P ms N as r (esR rc) (MsR H0 rc) (hR H0 rc) later = true → ∀ (pre l' : List Rec), rc = pre ++ l' →
    (∀ e, e ∈ esR rc → e ∉ esR l' → mBit ms r.i e = false) → (∀ e ∈ later, mBit ms r.i e = false) → (∀ e ∈ esR l', mBit ms e r.i = false) →
    evR P r.r r.T (addB N (fun j => mBit ms r.i j && !merged ms (esR l') j) (hR H0 l') as) false (fun v => veq 64 v r.v) = true
  | rc, later, h, [], l', e, _, h2, h3 => by
    simp at e; subst e
    rw [sameRd.eq_def] at h
    rw [Bool.and_eq_true] at h
    have c1 : ((esR rc).any (fun e => mBit ms e r.i) || later.any (fun e => mBit ms r.i e)) = false := by
      rw [Bool.or_eq_false_iff]
      refine ⟨?_, ?_⟩
      · rw [List.any_eq_false]; intro x hx; simp [h3 x hx]
      · rw [List.any_eq_false]; intro x hx; simp [h2 x hx]
    have := h.1
    rw [c1] at this
    simp only [cond_false] at this
    rw [sees_eq] at this
    exact this
  | [], later, h, p :: pre, l', e, _, _, _ => by simp at e
  | r0 :: l, later, h, p :: pre, l', e, h1, h2, h3 => by
    simp at e
    obtain ⟨rfl, rfl⟩ := e
    cases hinf : r0.inf with
    | e H' nx' =>
      simp only [esR, MsR, hR, hinf] at h
      rw [sameRd.eq_def] at h
      rw [Bool.and_eq_true] at h
      have hb := h.2
      dsimp only at hb
      have hidx : mBit ms r.i (pre ++ l').length = false := h1 _ (by simp [esR, hinf]) (fun hm => by have := esR_lt hm; simp at this; omega)
      rw [hidx] at hb
      simp only [cond_false] at hb
      refine same_at (pre ++ l') _ hb pre l' rfl (fun e he hn => h1 e (by simp [esR, hinf, he]) hn) ?_ h3
      intro e he
      rcases List.mem_cons.1 he with rfl | he
      · exact hidx
      · exact h2 e he
    | _ =>
      simp only [esR, MsR, hR, hinf] at h
      exact same_at (pre ++ l') later h pre l' rfl (fun e he hn => h1 e (by simp [esR, hinf, he]) hn) h2 h3

/-- Every reading of the record stands at every stage at which it may. -/
def RdAll (P : Program) (d n : Nat) (ops : List Oper) (N : Nat) (H0 : Heap) (rc : List Rec) : Prop :=
  ∀ r ∈ rsR rc, ∀ (pre l' : List Rec), rc = pre ++ l' → (∀ e, e ∈ esR rc → e ∉ esR l' → mBit (masks ops) r.i e = false) → (∀ e ∈ esR l', mBit (masks ops) e r.i = false) →
    ∀ (nx : Nat) (o : Oper), compI P n o = some (.r r.r) → RV P d n nx o r.T (addB N (fun j => mBit (masks ops) r.i j && !merged (masks ops) (esR l') j) (hR H0 l') (asR rc)) r.v
def ChkOK {β : Type} (P : Program) (chk : ChkT β) : Prop := ∀ (d n : Nat) (ops : List Oper) (N : Nat) (H0 : Heap) (rc : List Rec) (y z : β),
  chk (masks ops) N (asR rc) (rsR rc) (esR rc) (MsR H0 rc) (hR H0 rc) y z = z ∨
  (chk (masks ops) N (asR rc) (rsR rc) (esR rc) (MsR H0 rc) (hR H0 rc) y z = y ∧ RdAll P d n ops N H0 rc)
theorem chkB_ok {β : Type} (P : Program) : ChkOK (β := β) P (chkB P) := by
  intro d n ops N H0 rc y z
  unfold chkB
  cases hrs : (rsR rc).all fun r => sameRd P (masks ops) N (asR rc) r (esR rc) (MsR H0 rc) (hR H0 rc) [] with
  | false => exact .inl rfl
  | true =>
    refine .inr ⟨rfl, fun r hr pre l' hsuf h1 h2 nx o hc => ?_⟩
    have hsame := same_at rc [] (List.all_eq_true.1 hrs r hr) pre l' hsuf h1 (by simp) h2
    rcases soundR (P := P) (d := d) (n := n) (nx := nx) (o := o) (T := r.T) (H := addB N (fun j => mBit (masks ops) r.i j && !merged (masks ops) (esR l') j) (hR H0 l') (asR rc)) hc false (fun v => veq 64 v r.v) with h | ⟨v, h, hrv⟩
    · rw [h] at hsame; cases hsame
    · rw [h] at hsame
      have hve := veq_eq hsame
      rw [← hve]; exact hrv

/-! The state where some operations have been carried out. -/
noncomputable def valD (ops : List Oper) (T0 : Tree Value) (D : Nat → Bool) : List Rec → Nat → Value
  | [], t => (tg T0 t).getD undef
  | r :: l, t => if D l.length = true ∧ (ops[l.length]?).bind (·.dst) = some t then r.v else valD ops T0 D l t
theorem valD_eq {ops : List Oper} {T0 : Tree Value} {D : Nat → Bool} {t : Nat} : ∀ {l : List Rec}, (∀ j, j < l.length → (ops[j]?).bind (·.dst) = some t → D j = true) → valD ops T0 D l t = valR ops T0 l t
  | [], _ => rfl
  | r :: l, h => by
    simp only [valD, valR]
    by_cases hd : (ops[l.length]?).bind (·.dst) = some t
    · have := h l.length (by simp) hd
      simp [hd, this]
    · rw [if_neg (fun hc => hd hc.2), if_neg hd]
      exact valD_eq fun j hj => h j (by simp; omega)
theorem valD_skip {ops : List Oper} {T0 : Tree Value} {D : Nat → Bool} {t : Nat} {l : List Rec} : ∀ {pre : List Rec}, (∀ j, l.length ≤ j → j < (pre ++ l).length → (ops[j]?).bind (·.dst) = some t → D j = false) → valD ops T0 D (pre ++ l) t = valD ops T0 D l t
  | [], _ => rfl
  | r :: pre, h => by
    simp only [List.cons_append, valD]
    rw [if_neg]
    · exact valD_skip fun j h1 h2 h3 => h j h1 (by simp at h2 ⊢; omega) h3
    · rintro ⟨h1, h2⟩
      have := h (pre ++ l).length (by simp) (by simp) h2
      rw [h1] at this; cases this
/-- One operation more. -/
theorem valD_set {ops : List Oper} {T0 : Tree Value} {D D' : Nat → Bool} {i : Nat} (hD : ∀ j, D' j = if j = i then true else D j) {r : Rec} {l : List Rec} (hl : l.length = i) {t : Nat} (huniq : ∀ j, j ≠ i → (ops[i]?).bind (·.dst) = some t → (ops[j]?).bind (·.dst) ≠ some t) (hDi : D i = false) :
    ∀ {pre : List Rec}, valD ops T0 D' (pre ++ r :: l) t = if (ops[i]?).bind (·.dst) = some t then r.v else valD ops T0 D (pre ++ r :: l) t
  | [] => by
    simp only [List.nil_append, valD, hl, hDi]
    have h1 : D' i = true := by simp [hD]
    have h2 : valD ops T0 D' l t = valD ops T0 D l t := by
      have : ∀ m : List Rec, m.length ≤ i → valD ops T0 D' m t = valD ops T0 D m t := by
        intro m
        induction m with
        | nil => intro _; rfl
        | cons x m ih =>
          intro hm
          simp at hm
          simp only [valD]
          have : D' m.length = D m.length := by rw [hD, if_neg (by omega)]
          rw [this, ih (by omega)]
      exact this l (by omega)
    simp [h1, h2]
  | p :: pre => by
    have ih := valD_set hD hl huniq hDi (pre := pre) (T0 := T0) (r := r)
    simp only [List.cons_append, valD]
    have hne : (pre ++ r :: l).length ≠ i := by simp; omega
    have : D' (pre ++ r :: l).length = D (pre ++ r :: l).length := by rw [hD, if_neg hne]
    rw [this, ih]
    by_cases hi : (ops[i]?).bind (·.dst) = some t
    · have := huniq _ hne hi
      rw [if_pos hi, if_neg (fun hc => this hc.2), if_pos hi]
    · rw [if_neg hi, if_neg hi]

/-- The stage that has been come to: a part of the record. -/
theorem stage {P : Program} {d n : Nat} {ops : List Oper} {N : Nat} {H0 : Heap} {n0 : Nat} {T0 : Tree Value} {D : Nat → Bool} (hcl : ∀ i j, D i = true → mBit (masks ops) i j = true → D j = true) : ∀ {rc : List Rec}, AllF P d n ops N H0 n0 T0 rc →
    ∃ pre l', rc = pre ++ l' ∧ (∀ e ∈ esR l', D e = true) ∧ (∀ e ∈ esR rc, e ∉ esR l' → D e = false)
  | [], _ => ⟨[], [], rfl, by simp [esR], by simp [esR]⟩
  | r :: l, ⟨⟨o, s, hf⟩, hall⟩ => by
    obtain ⟨pre, l', e1, e2, e3⟩ := stage hcl hall
    cases hinf : r.inf with
    | e H' nx' =>
      cases hD : D l.length with
      | true =>
        refine ⟨[], r :: l, rfl, ?_, fun e he hn => absurd he hn⟩
        intro e he
        simp only [esR, hinf] at he
        rcases List.mem_cons.1 he with rfl | he
        · exact hD
        · have hw := hf.what
          rw [hinf] at hw
          exact hcl _ _ hD (hw.2.2 e he)
      | false =>
        refine ⟨r :: pre, l', by rw [e1]; rfl, e2, ?_⟩
        intro e he hn
        simp only [esR, hinf] at he
        rcases List.mem_cons.1 he with rfl | he
        · exact hD
        · exact e3 e he hn
    | _ =>
      refine ⟨r :: pre, l', by rw [e1]; rfl, e2, ?_⟩
      intro e he hn
      simp only [esR, hinf] at he
      exact e3 e he hn
theorem AllF.suf {P : Program} {d n : Nat} {ops : List Oper} {N : Nat} {H0 : Heap} {n0 : Nat} {T0 : Tree Value} : ∀ {pre l : List Rec}, AllF P d n ops N H0 n0 T0 (pre ++ l) → AllF P d n ops N H0 n0 T0 l
  | [], _, h => h
  | _ :: _, _, h => AllF.suf h.2
theorem split_at : ∀ {rc : List Rec} {i : Nat}, i < rc.length → ∃ pre r l, rc = pre ++ r :: l ∧ l.length = i
  | [], i, h => by simp at h
  | r :: l, i, h => by
    by_cases e : l.length = i
    · exact ⟨[], r, l, rfl, e⟩
    · obtain ⟨pre, r', l', h1, h2⟩ := split_at (rc := l) (i := i) (by simp at h; omega)
      exact ⟨r :: pre, r', l', by rw [h1]; rfl, h2⟩
end Go.Clo
