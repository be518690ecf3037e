/-
  The closed executor: the order that a region's edges leave open.
-/
import Derived.Test.YtdecggbglnbhlaaGreatDoorCloG
set_option linter.unusedSimpArgs false
set_option linter.unusedVariables false
set_option linter.unusedSectionVars false
namespace Go.Clo

theorem masksK_eq {β : Type} : ∀ (ops : List Oper) (acc : List Nat) (f : List Nat → β), ∃ ml, masksK acc ops f = f (acc ++ ml) ∧ ml.length = ops.length ∧
    ∀ i o, ops[i]? = some o → ml[i]? = some (maskOf (acc ++ ml.take i) o.after.toList 0)
  | [], acc, f => ⟨[], by simp [masksK], rfl, fun i o h => by simp at h⟩
  | o :: ops, acc, f => by
    obtain ⟨ml, h1, h2, h3⟩ := masksK_eq ops (acc ++ [maskOf acc o.after.toList 0]) f
    refine ⟨maskOf acc o.after.toList 0 :: ml, by simp [masksK, forceN_eq, h1], by simp [h2], fun i o' hi => ?_⟩
    cases i with
    | zero => simp at hi; subst hi; simp
    | succ i => simpa using h3 i o' (by simpa using hi)
theorem masks_spec (ops : List Oper) : (masks ops).length = ops.length ∧ ∀ i o, ops[i]? = some o → (masks ops)[i]? = some (maskOf ((masks ops).take i) o.after.toList 0) := by
  obtain ⟨ml, h1, h2, h3⟩ := masksK_eq ops [] id
  have : masks ops = ml := by unfold masks; rw [h1]; simp
  rw [this]
  exact ⟨h2, fun i o hi => by simpa using h3 i o hi⟩

theorem maskOf_bit : ∀ (es : List Edge) (acc : List Nat) (m j : Nat), (maskOf acc es m).testBit j = true → m.testBit j = true ∨ ∃ e ∈ es, Region.binds .any e = true ∧ (e.on = j ∨ ∃ x, acc[e.on]? = some x ∧ x.testBit j = true)
  | [], acc, m, j, h => .inl h
  | e :: es, acc, m, j, h => by
    simp only [maskOf] at h
    cases hb : Region.binds .any e with
    | false =>
      rw [hb] at h
      rcases maskOf_bit es acc m j h with h | ⟨e', he', hx⟩
      · exact .inl h
      · exact .inr ⟨e', by simp [he'], hx⟩
    | true =>
      rw [hb] at h
      rcases maskOf_bit es acc _ j h with h | ⟨e', he', hx⟩
      · simp only [Nat.testBit_or, Bool.or_eq_true] at h
        rcases h with (h | h) | h
        · exact .inl h
        · rw [Nat.testBit_two_pow] at h
          exact .inr ⟨e, by simp, hb, .inl (by simpa using h)⟩
        · refine .inr ⟨e, by simp, hb, .inr ?_⟩
          rw [nth_eq] at h
          cases hx : acc[e.on]? with
          | none => rw [hx] at h; simp at h
          | some x => rw [hx] at h; exact ⟨x, rfl, h⟩
      · exact .inr ⟨e', by simp [he'], hx⟩
theorem mBit_inv {ops : List Oper} {i j : Nat} (h : mBit (masks ops) i j = true) :
    ∃ o e, ops[i]? = some o ∧ e ∈ o.after ∧ Region.binds .any e = true ∧ (e.on = j ∨ (e.on < i ∧ mBit (masks ops) e.on j = true)) := by
  obtain ⟨h1, h2⟩ := masks_spec ops
  unfold mBit at h
  rw [nth_eq] at h
  cases hm : (masks ops)[i]? with
  | none => rw [hm] at h; cases h
  | some m =>
    rw [hm] at h
    dsimp only at h
    have hi : i < ops.length := by
      rcases Nat.lt_or_ge i ops.length with g | g
      · exact g
      · simp [h1, g] at hm
    have ho : ops[i]? = some ops[i] := by simp [hi]
    have := h2 i _ ho
    rw [hm] at this
    cases this
    rcases maskOf_bit _ _ _ _ h with h | ⟨e, he, hb, hx⟩
    · simp at h
    · refine ⟨ops[i], e, ho, by simpa using he, hb, ?_⟩
      rcases hx with hx | ⟨x, hx, hxb⟩
      · exact .inl hx
      · have hlt : e.on < i := by
          rcases Nat.lt_or_ge e.on i with g | g
          · exact g
          · simp [List.getElem?_take, Nat.not_lt.2 g] at hx
        refine .inr ⟨hlt, ?_⟩
        simp [List.getElem?_take, hlt] at hx
        unfold mBit
        rw [nth_eq, hx]
        exact hxb

/-- What 'slotsOk' says of one operation. -/
structure SlotOK (ops : List Oper) (i : Nat) (o : Oper) : Prop where
  one : ∀ j oj d, ops[j]? = some oj → oj.dst = some d → i ≠ j → o.dst ≠ some d ∧ (d ∈ looks ops o → mBit (masks ops) i j = true ∨ mBit (masks ops) j i = true)
  self : ∀ d, o.dst = some d → d ∉ looks ops o
  edge : ∀ e ∈ o.after, Region.binds .any e = true → e.on < i
theorem slotsOk_inv {ops : List Oper} : ∀ (suf : List Oper) (i0 : Nat), slotsOk (masks ops) ops suf i0 = true → ∀ k o, suf[k]? = some o → SlotOK ops (i0 + k) o
  | [], i0, _, k, o, hk => by simp at hk
  | o :: suf, i0, h, k, o', hk => by
    simp only [slotsOk, Bool.and_eq_true] at h
    obtain ⟨⟨⟨⟨h1, h2⟩, h3⟩, h4⟩, h5⟩ := h
    cases k with
    | succ k =>
      have := slotsOk_inv suf (i0 + 1) h5 k o' (by simpa using hk)
      rwa [show i0 + 1 + k = i0 + (k + 1) by omega] at this
    | zero =>
      simp at hk; subst hk
      refine ⟨fun j oj d hj hd hne => ?_, fun d hd => ?_, fun e he hb => ?_⟩
      · rw [List.all_eq_true] at h1
        have := h1 (oj, j) (by
          rw [List.mem_iff_getElem?]
          exact ⟨j, by simp [List.getElem?_zipIdx, hj]⟩)
        simp only [hd, Bool.or_eq_true, Bool.and_eq_true] at this
        rcases this with this | ⟨g1, g2⟩
        · exact absurd (Nat.eq_of_beq_eq_true this) hne
        · refine ⟨fun e => ?_, fun hm => ?_⟩
          · rw [e] at g1; simp at g1
          · rcases g2 with (g2 | g2) | g2
            · simp [hm] at g2
            · exact .inl g2
            · exact .inr g2
      · rw [hd] at h3
        simpa using h3
      · rw [List.all_eq_true] at h4
        have := h4 e (by simpa using he)
        simp [hb] at this
        simpa using this

theorem mBit_lt {ops : List Oper} (hok : ∀ i o, ops[i]? = some o → SlotOK ops i o) : ∀ (i j : Nat), mBit (masks ops) i j = true → j < i := by
  intro i
  induction i using Nat.strongRecOn with
  | _ i ih =>
    intro j h
    obtain ⟨o, e, ho, he, hb, hx⟩ := mBit_inv h
    have hlt := (hok i o ho).edge e he hb
    rcases hx with rfl | ⟨_, hx⟩
    · exact hlt
    · have := ih e.on hlt j hx
      omega

/-- What is listed is closed: whoever is listed, all that must come before it is. -/
def Closed (ops : List Oper) (D : Nat → Bool) : Prop := ∀ i o, ops[i]? = some o → D i = true → ∀ e ∈ o.after, Region.binds .any e = true → D e.on = true
theorem closed_bit {ops : List Oper} (hok : ∀ i o, ops[i]? = some o → SlotOK ops i o) {D : Nat → Bool} (hc : Closed ops D) : ∀ (i j : Nat), (∀ o, ops[i]? = some o → ∀ e ∈ o.after, Region.binds .any e = true → D e.on = true) → mBit (masks ops) i j = true → D j = true := by
  intro i
  induction i using Nat.strongRecOn with
  | _ i ih =>
    intro j hd h
    obtain ⟨o, e, ho, he, hb, hx⟩ := mBit_inv h
    have hlt := (hok i o ho).edge e he hb
    have hl := hd o ho e he hb
    rcases hx with rfl | ⟨_, hx⟩
    · exact hl
    · exact ih e.on hlt j (fun o' ho' e' he' hb' => hc e.on o' ho' hl e' he' hb') hx

theorem mem_ready' {ops : Array Oper} {listed : Array Bool} {i : Nat} (h : i ∈ Region.ready .any ops listed) : i < ops.size ∧ listed.getD i true = false ∧ ∀ o, ops[i]? = some o → ∀ e ∈ o.after, Region.binds .any e = true → listed.getD e.on false = true := by
  simp only [Region.ready, List.mem_filter, List.mem_range, Bool.and_eq_true, Bool.not_eq_true'] at h
  obtain ⟨h1, h2, h3⟩ := h
  refine ⟨h1, h2, fun o ho e he hb => ?_⟩
  rw [ho] at h3
  simp only [Option.map_some, Option.getD_some, Array.all_eq_true_iff_forall_mem] at h3
  have := h3 e he
  simpa [hb] using this
theorem ready_none {ops : Array Oper} {listed : Array Bool} (hs : listed.size = ops.size) (hedge : ∀ i o, ops[i]? = some o → ∀ e ∈ o.after, Region.binds .any e = true → e.on < i) (h : Region.ready .any ops listed = []) : ∀ i, i < ops.size → listed.getD i false = true := by
  intro i
  induction i using Nat.strongRecOn with
  | _ i ih =>
    intro hi
    cases hl : listed.getD i false with
    | true => rfl
    | false =>
      exfalso
      have hmem : i ∈ Region.ready .any ops listed := by
        simp only [Region.ready, List.mem_filter, List.mem_range, Bool.and_eq_true, Bool.not_eq_true']
        refine ⟨hi, ?_, ?_⟩
        · have hi2 : i < listed.size := by omega
          simp [hi2] at hl ⊢; exact hl
        · have ho : ops[i]? = some ops[i] := by simp [hi]
          rw [ho]
          simp only [Option.map_some, Option.getD_some, Array.all_eq_true_iff_forall_mem]
          intro e he
          cases hb : Region.binds .any e with
          | false => rfl
          | true =>
            have hlt := hedge i _ ho e he hb
            have := ih e.on hlt (by omega)
            rw [this]; rfl
      rw [h] at hmem
      cases hmem
end Go.Clo
