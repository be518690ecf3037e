/-
  The closed executor: a region's operations in whatever order: one operation.
-/
import Derived.Test.YtdecggbglnbhlaaGreatDoorCloK
set_option linter.unusedSimpArgs false
set_option linter.unusedVariables false
set_option linter.unusedSectionVars false
namespace Go.Clo

theorem split_uniq {pre pre' l l' : List Rec} {r r' : Rec} (h : pre ++ r :: l = pre' ++ r' :: l') (hl : l.length = l'.length) : r = r' ∧ l = l' := by
  have h2 : (r :: l) = (r' :: l') := by
    have := congrArg (fun x => x.drop (pre.length)) h
    have hp : pre.length = pre'.length := by have := congrArg List.length h; simp at this; omega
    simp at this
    rw [hp] at this
    simpa using this
  cases h2; exact ⟨rfl, rfl⟩
theorem asR_mem : ∀ {rc : List Rec} {j : Nat} {b : Blk}, (j, b) ∈ asR rc → ∃ pre r l, rc = pre ++ r :: l ∧ l.length = j ∧ r.inf = .a b
  | [], j, b, h => by simp [asR] at h
  | r :: l, j, b, h => by
    have old : (j, b) ∈ asR l → ∃ pre r' l', r :: l = pre ++ r' :: l' ∧ l'.length = j ∧ r'.inf = .a b := by
      intro h
      obtain ⟨pre, r', l', h1, h2, h3⟩ := asR_mem h
      exact ⟨r :: pre, r', l', by rw [h1]; rfl, h2, h3⟩
    simp only [asR] at h
    split at h
    · rename_i b' hb
      rcases List.mem_cons.1 h with e | h
      · cases e; exact ⟨[], r, l, rfl, rfl, hb⟩
      · exact old h
    · exact old h
theorem asR_here {pre l : List Rec} {r : Rec} {b : Blk} (h : r.inf = .a b) : (l.length, b) ∈ asR (pre ++ r :: l) := by
  induction pre with
  | nil => simp [asR, h]
  | cons x pre ih =>
    simp only [List.cons_append, asR]
    split
    · exact List.mem_cons_of_mem _ ih
    · exact ih
theorem asR_low {pre l : List Rec} {j : Nat} {b : Blk} (h : (j, b) ∈ asR (pre ++ l)) (hj : j < l.length) : (j, b) ∈ asR l := by
  induction pre with
  | nil => exact h
  | cons x pre ih =>
    simp only [List.cons_append, asR] at h
    split at h
    · rcases List.mem_cons.1 h with e | h
      · cases e; simp at hj; omega
      · exact ih h
    · exact ih h
theorem asR_up {pre l : List Rec} {q : Nat × Blk} (h : q ∈ asR l) : q ∈ asR (pre ++ l) := by
  induction pre with
  | nil => exact h
  | cons x pre ih =>
    simp only [List.cons_append, asR]
    split
    · exact List.mem_cons_of_mem _ ih
    · exact ih
theorem esR_mem : ∀ {rc : List Rec} {e : Nat}, e ∈ esR rc → ∃ pre r l H nx, rc = pre ++ r :: l ∧ l.length = e ∧ r.inf = .e H nx
  | [], e, h => by simp [esR] at h
  | r :: l, e, h => by
    have old : e ∈ esR l → ∃ pre r' l' H nx, r :: l = pre ++ r' :: l' ∧ l'.length = e ∧ r'.inf = .e H nx := by
      intro h
      obtain ⟨pre, r', l', H, nx, h1, h2, h3⟩ := esR_mem h
      exact ⟨r :: pre, r', l', H, nx, by rw [h1]; rfl, h2, h3⟩
    simp only [esR] at h
    split at h
    · rename_i H nx hb
      rcases List.mem_cons.1 h with rfl | h
      · exact ⟨[], r, l, H, nx, rfl, rfl, hb⟩
      · exact old h
    · exact old h
theorem esR_up {pre l : List Rec} {q : Nat} (h : q ∈ esR l) : q ∈ esR (pre ++ l) := by
  induction pre with
  | nil => exact h
  | cons x pre ih =>
    simp only [List.cons_append, esR]
    split
    · exact List.mem_cons_of_mem _ ih
    · exact ih
theorem esR_low {pre l : List Rec} {e : Nat} (h : e ∈ esR (pre ++ l)) (hj : e < l.length) : e ∈ esR l := by
  induction pre with
  | nil => exact h
  | cons x pre ih =>
    simp only [List.cons_append, esR] at h
    split at h
    · rcases List.mem_cons.1 h with e | h
      · subst e; simp at hj; omega
      · exact ih h
    · exact ih h
theorem same_stage {H0 : Heap} {n0 : Nat} : ∀ {mid l : List Rec}, (∀ e ∈ esR (mid ++ l), e < l.length) → esR (mid ++ l) = esR l ∧ hR H0 (mid ++ l) = hR H0 l ∧ nR n0 (mid ++ l) = nR n0 l
  | [], l, _ => ⟨rfl, rfl, rfl⟩
  | r :: mid, l, h => by
    cases hinf : r.inf with
    | e H' nx' =>
      have := h (mid ++ l).length (by simp [esR, hinf])
      simp at this; omega
    | _ =>
      have h' : ∀ e ∈ esR (mid ++ l), e < l.length := fun e he => h e (by simp [esR, hinf, he])
      obtain ⟨h1, h2, h3⟩ := same_stage (H0 := H0) (n0 := n0) h'
      simp [esR, hR, nR, hinf, h1, h2, h3]

theorem pick_congr {N : Nat} {p p' : Nat → Bool} {q : Nat} : ∀ {l : List (Nat × Blk)}, (∀ x ∈ l, N + x.1 = q → p x.1 = p' x.1) → pickB N p q l = pickB N p' q l
  | [], _ => rfl
  | (j, b) :: l, h => by
    simp only [pickB]
    have ih := pick_congr (p := p) (p' := p') (q := q) (l := l) fun x hx => h x (by simp [hx])
    rw [ih]
    by_cases e : N + j = q
    · have := h (j, b) (by simp) e
      simp only at this
      rw [this]
    · rw [if_neg (fun hc => e hc.1), if_neg (fun hc => e hc.1)]

/-- The state where the operations D have been carried out. -/
structure Inv (n : Nat) (ops : List Oper) (N : Nat) (H0 : Heap) (T0 : Tree Value) (rc : List Rec) (F0 : FM) (w0 : World) (ds : List Deferred) (D : Nat → Bool) (a : Act) (w : World) (F : FM) (X : Heap) (l' : List Rec) : Prop where
  suf : ∃ pre, rc = pre ++ l'
  done : ∀ e ∈ esR l', D e = true
  todo : ∀ e ∈ esR rc, e ∉ esR l' → D e = false
  size : a.tmps.size = n
  slots : ∀ t, t < n → VR F (valD ops T0 D rc t) (a.tmps.getD t undef)
  heap : ∀ q, getH X q = (pickB N (fun j => D j && !merged (masks ops) (esR l') j) q (asR rc)).or (getH (hR H0 l') q)
  free : ∀ j, j < ops.length → merged (masks ops) (esR l') j = false → getH (hR H0 l') (N + j) = none
  stp : Stp F0 H0 N w0 F X (nR (N + ops.length) l') w
  res : ∀ j, j < ops.length → D j = false → F (N + j) = none
  nx : N + ops.length ≤ nR (N + ops.length) l'
  defers : a.defers = ds

section
variable {P : Program} {d n : Nat} {ops : List Oper} {N : Nat} {H0 : Heap} {T0 : Tree Value} {rc : List Rec} {F0 : FM} {w0 : World} {ds : List Deferred} {D : Nat → Bool} {a : Act} {w : World} {F : FM} {X : Heap} {l' : List Rec}

/-- What an operation sees of the blocks beside lies in the heap. -/
theorem Inv.sees (hI : Inv n ops N H0 T0 rc F0 w0 ds D a w F X l') (hlen : rc.length = ops.length) {i : Nat} (hp : ∀ j, mBit (masks ops) i j = true → D j = true) {as : List (Nat × Blk)} {L : Nat} (hL : L ≤ ops.length) (hk : Keys L as) (has : ∀ q ∈ as, q ∈ asR rc) :
    ∀ q b, getH (addB N (fun j => mBit (masks ops) i j && !merged (masks ops) (esR l') j) (hR H0 l') as) q = some b → getH X q = some b := by
  intro q b hg
  rw [getH_addB (L := L) hk q] at hg
  rw [hI.heap q]
  have hkr : Keys ops.length (asR rc) := by rw [← hlen]; exact asR_keys rc
  cases hp1 : pickB N (fun j => mBit (masks ops) i j && !merged (masks ops) (esR l') j) q as with
  | some b' =>
    rw [hp1] at hg
    simp at hg; subst hg
    obtain ⟨j, hm, rfl, hpj⟩ := pick_some hp1
    rw [Bool.and_eq_true] at hpj
    rw [pick_mem hkr (has _ hm) (by rw [hp j hpj.1, hpj.2]; rfl)]
    rfl
  | none =>
    rw [hp1] at hg
    simp at hg
    cases hp2 : pickB N (fun j => D j && !merged (masks ops) (esR l') j) q (asR rc) with
    | none => simpa using hg
    | some b' =>
      exfalso
      obtain ⟨j, hm, rfl, hpj⟩ := pick_some hp2
      rw [Bool.and_eq_true] at hpj
      have hj : j < ops.length := by
        obtain ⟨pre, r, l, h1, h2, _⟩ := asR_mem hm
        rw [← hlen, h1]; simp; omega
      rw [hI.free j hj (by simpa using hpj.2)] at hg
      cases hg

theorem looks_tmp {ops : List Oper} {o : Oper} {t : Nat} (h : Operand.tmp t ∈ o.op.operands) : t ∈ looks ops o := by
  unfold looks
  apply List.mem_append_left
  rw [List.mem_filterMap]
  exact ⟨.tmp t, by simpa using h, rfl⟩

/-- The slots that an operation looks at hold what they held in the order of the text. -/
theorem Inv.look {l : List Rec} {r : Rec} {pre0 : List Rec} {o : Oper} {i : Nat} (hok : ∀ i o, ops[i]? = some o → SlotOK ops i o) (hrc : rc = pre0 ++ r :: l) (hl : l.length = i) (hlen : rc.length = ops.length) (ho : ops[i]? = some o)
    (hDi : D i = false) (hp : ∀ j, mBit (masks ops) i j = true → D j = true) (hcl : ∀ i j, D i = true → mBit (masks ops) i j = true → D j = true) {t : Nat} (ht : t ∈ looks ops o) : valD ops T0 D rc t = valR ops T0 l t := by
  have hso := hok i o ho
  have key : ∀ j, j ≠ i → (ops[j]?).bind (·.dst) = some t → mBit (masks ops) i j = true ∨ mBit (masks ops) j i = true := by
    intro j hj hd
    cases hoj : ops[j]? with
    | none => rw [hoj] at hd; cases hd
    | some oj =>
      rw [hoj] at hd
      exact (hso.one j oj t hoj (by simpa using hd) (Ne.symm hj)).2 ht
  have hself : (ops[i]?).bind (·.dst) ≠ some t := by
    rw [ho]; intro h
    exact hso.self t (by simpa using h) ht
  rw [hrc, valD_skip (l := r :: l)]
  · simp only [valD]
    rw [if_neg (by rw [hl, hDi]; rintro ⟨h, _⟩; cases h)]
    apply valD_eq
    intro j hj hd
    rcases key j (by omega) hd with h | h
    · exact hp j h
    · have := mBit_lt hok _ _ h; omega
  · intro j h1 h2 hd
    have hji : j ≠ i := by simp at h1; omega
    rcases key j hji hd with h | h
    · have := mBit_lt hok _ _ h
      simp at h1; omega
    · cases hDj : D j with
      | false => rfl
      | true => have := hcl j i hDj h; rw [hDi] at this; cases this

theorem Inv.or {l : List Rec} {r : Rec} {pre0 : List Rec} {o : Oper} {s : S} {i n0 : Nat} (hI : Inv n ops N H0 T0 rc F0 w0 ds D a w F X l') (hok : ∀ i o, ops[i]? = some o → SlotOK ops i o) (hrc : rc = pre0 ++ r :: l) (hl : l.length = i) (hlen : rc.length = ops.length)
    (hf : Fact P d n ops N H0 n0 T0 r l o s) (hDi : D i = false) (hp : ∀ j, mBit (masks ops) i j = true → D j = true) (hcl : ∀ i j, D i = true → mBit (masks ops) i j = true → D j = true) : OR n o F r.T a ∧ GR s.guard F r.T a := by
  have ho : ops[i]? = some o := by rw [← hl]; exact hf.ho
  have slot : ∀ t, t < n → t ∈ looks ops o → VR F ((tg r.T t).getD undef) (a.tmps.getD t undef) := by
    intro t htn ht
    rw [hf.hT t htn, ← Inv.look (T0 := T0) hok hrc hl hlen ho hDi hp hcl ht]
    exact hI.slots t htn
  refine ⟨?_, ?_⟩
  · intro x hx y hc
    cases x with
    | tmp t =>
      simp only [compX] at hc
      cases hb : Nat.blt t n with
      | false => rw [hb] at hc; cases hc
      | true =>
        rw [hb] at hc; cases hc
        rw [ev_s]
        exact slot t (by simpa using hb) (looks_tmp hx)
    | const v =>
      simp only [compX] at hc
      cases hb : flat v with
      | false => rw [hb] at hc; cases hc
      | true => rw [hb] at hc; cases hc; exact flat_refl F v hb
    | global g => simp [compX] at hc
    | func f =>
      simp [compX] at hc; subst hc
      exact .func _ rfl (by simp) rfl (by simp)
  · intro t want hg
    obtain ⟨hcg, _, _, _⟩ := compS_inv hf.hs
    rw [hg] at hcg
    cases hgd : o.guard with
    | none => rw [hgd] at hcg; simp [compG] at hcg
    | some jw =>
      obtain ⟨j, wnt⟩ := jw
      rw [hgd] at hcg
      simp only [compG] at hcg
      split at hcg
      · rename_i oj hoj
        split at hcg
        · rename_i t' htd
          cases hb : Nat.blt t' n with
          | false => rw [hb] at hcg; cases hcg
          | true =>
            rw [hb] at hcg; cases hcg
            have htn : t < n := by simpa using hb
            refine ⟨by rw [hI.size]; exact htn, slot t htn ?_⟩
            unfold looks
            apply List.mem_append_right
            rw [hgd]
            simp [hoj, htd]
        · cases hcg
      · cases hcg

/-- The slots behind one operation more. -/
theorem Inv.put {l : List Rec} {r : Rec} {pre0 : List Rec} {o : Oper} {i : Nat} {D' : Nat → Bool} (hI : Inv n ops N H0 T0 rc F0 w0 ds D a w F X l') (hok : ∀ i o, ops[i]? = some o → SlotOK ops i o) (hrc : rc = pre0 ++ r :: l) (hl : l.length = i) (ho : ops[i]? = some o)
    (hDi : D i = false) (hD : ∀ j, D' j = if j = i then true else D j) {F' : FM} (hF : F.le F') {v' : Value} (hv : VR F' r.v v') : (a.put o.dst v').tmps.size = n ∧ ∀ t, t < n → VR F' (valD ops T0 D' rc t) ((a.put o.dst v').tmps.getD t undef) := by
  have hso := hok i o ho
  refine ⟨by cases hd : o.dst <;> simp [Act.put, hI.size], fun t ht => ?_⟩
  rw [hrc, valD_set hD hl (by
    intro j hj h1 h2
    rw [ho] at h1
    cases hoj : ops[j]? with
    | none => rw [hoj] at h2; cases h2
    | some oj =>
      rw [hoj] at h2
      exact (hso.one j oj t hoj (by simpa using h2) (Ne.symm hj)).1 (by simpa using h1)) hDi, ← hrc]
  rw [ho]
  simp only [Option.bind_some]
  by_cases hd : o.dst = some t
  · rw [if_pos hd, hd]
    have : (a.put (some t) v').tmps.getD t undef = v' := by simp [Act.put, hI.size, ht]
    rw [this]; exact hv
  · rw [if_neg hd]
    have : (a.put o.dst v').tmps.getD t undef = a.tmps.getD t undef := by
      cases hq : o.dst with
      | none => rfl
      | some q =>
        have : q ≠ t := fun e => hd (by rw [hq, e])
        simp [Act.put, Array.getElem?_setIfInBounds_ne this]
    rw [this]
    exact (hI.slots t ht).mono hF
end
end Go.Clo
