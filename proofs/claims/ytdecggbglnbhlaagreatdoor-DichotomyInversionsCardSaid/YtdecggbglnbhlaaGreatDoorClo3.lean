/-
  The closed executor: the operations that only compute stand to the model's.
-/
import Derived.Test.YtdecggbglnbhlaaGreatDoorClo2
import Derived.IntWalk
set_option linter.unusedSimpArgs false
set_option linter.unusedVariables false
set_option linter.unusedSectionVars false
namespace Go.Clo

noncomputable def ev (T : Tree Value) (x : X) : Value := evK T x id
theorem evK_eq {β : Type} (T : Tree Value) (x : X) (k : Value → β) : evK T x k = k (ev T x) := by
  cases x with
  | s t =>
    show tgK T t (k undef) k = k (tgK T t (id undef) id)
    rw [tgK_eq, tgK_eq]; cases tg T t <;> rfl
  | c v => rfl
theorem evsK_eq {β : Type} (T : Tree Value) (l : List X) : ∀ (k : List Value → β), evsK T l k = k (l.map (ev T)) := by
  induction l with
  | nil => intro k; rfl
  | cons x l ih =>
    intro k
    show evK T x (fun v => evsK T l fun vs => k (v :: vs)) = _
    rw [evK_eq, ih]; rfl
theorem evOK_eq {β : Type} (T : Tree Value) (x : Option X) (k : Option Value → β) : evOK T x k = k (x.map (ev T)) := by
  cases x <;> simp [evOK, evK_eq]
theorem evPsK_eq {β : Type} (T : Tree Value) (l : List (Nat × X)) : ∀ (k : List (Nat × Value) → β), evPsK T l k = k (l.map fun p => (p.1, ev T p.2)) := by
  induction l with
  | nil => intro k; rfl
  | cons x l ih => intro k; obtain ⟨i, x⟩ := x; simp [evPsK, evK_eq, ih]

structure TR (d : Nat) (F : FM) (T : Tree Value) (n : Nat) (tmps : Array Value) : Prop where
  wf : WF d T
  size : tmps.size = n
  le : n ≤ 2 ^ d
  get : ∀ t, t < n → VR F ((tg T t).getD undef) (tmps.getD t undef)

theorem TR.mono {d : Nat} {F F' : FM} (hF : F.le F') {T : Tree Value} {n : Nat} {tmps : Array Value} (h : TR d F T n tmps) : TR d F' T n tmps :=
  ⟨h.wf, h.size, h.le, fun t ht => (h.get t ht).mono hF⟩

theorem ev_s (T : Tree Value) (t : Nat) : ev T (.s t) = (tg T t).getD undef := by
  show tgK T t undef id = _
  rw [tgK_eq]; cases tg T t <;> rfl
theorem ev_c (T : Tree Value) (v : Value) : ev T (.c v) = v := rfl

theorem TR.evX {d n : Nat} {F : FM} {T : Tree Value} {a : Act} (ht : TR d F T n a.tmps) {x : Operand} {y : X} (h : compX n x = some y) : VR F (ev T y) (a.eval x) := by
  cases x with
  | tmp t =>
    simp only [compX] at h
    cases hb : Nat.blt t n with
    | false => simp [hb] at h
    | true =>
      simp [hb] at h; subst h
      rw [ev_s]
      exact ht.get t (by simpa using hb)
  | const v =>
    simp only [compX] at h
    cases hb : flat v with
    | false => simp [hb] at h
    | true => simp [hb] at h; subst h; exact flat_refl F v hb
  | global g => simp [compX] at h
  | func f =>
    simp [compX] at h; subst h
    exact .func _ rfl (by simp) rfl (by simp)
/-- What stands for the operands of one operation. -/
def OR (n : Nat) (o : Oper) (F : FM) (T : Tree Value) (a : Act) : Prop := ∀ x ∈ o.op.operands, ∀ y, compX n x = some y → VR F (ev T y) (a.eval x)
theorem TR.or {d n : Nat} {F : FM} {T : Tree Value} {a : Act} (ht : TR d F T n a.tmps) (o : Oper) : OR n o F T a := fun _ _ _ h => ht.evX h
theorem evX {n : Nat} {o : Oper} {F : FM} {T : Tree Value} {a : Act} (ht : OR n o F T a) {x : Operand} {y : X} (h : compX n x = some y) (hm : x ∈ o.op.operands := by rw [(‹o.op = _› : o.op = _)]; simp [Op.operands]) : VR F (ev T y) (a.eval x) := ht x hm y h
theorem evalA_eq {n : Nat} {T : Tree Value} {x : Operand} {y : X} (h : compX n x = some y) : evalA T x = ev T y := by
  cases x with
  | tmp t =>
    simp only [compX] at h
    cases hb : Nat.blt t n with
    | false => simp [hb] at h
    | true => simp [hb] at h; subst h; rfl
  | const v =>
    simp only [compX] at h
    cases hb : flat v with
    | false => simp [hb] at h
    | true => simp [hb] at h; subst h; rfl
  | global g => simp [compX] at h
  | func f => simp [compX] at h; subst h; rfl

theorem prun_sound {α : Type} {P : Program} {s : Sem α} {r : α} (h : prun P s = some r) (w : World) : s.run P w = .ok r w := by
  induction s with
  | pure a => simp [prun] at h; subst h; rfl
  | program k ih => exact ih P h
  | mark m k ih => exact ih h
  | _ => simp [prun] at h

/-- The operation yields 'v', whatever stands for the operands; the world stays. -/
def PV (P : Program) (d n : Nat) (o : Oper) (T : Tree Value) (v : Value) : Prop :=
  ∀ (F : FM) (a : Act) (w : World), OR n o F T a → ∃ v', (execOp a.eval o).run P w = .ok (.value v') w ∧ VR F v v'

theorem scalK_sound {β : Type} {P : Program} {d n : Nat} {o : Oper} {T : Tree Value} {xs : List X} (hsel : ∀ cs b, o.op ≠ .select cs b)
    (hxs : ∀ x ∈ o.op.operands, ∃ y ∈ xs, compX n x = some y) (z : β) (k : Value → β) :
    scalK P T xs o z k = z ∨ ∃ v, scalK P T xs o z k = k v ∧ PV P d n o T v := by
  unfold scalK
  rw [evsK_eq]
  cases hall : (xs.map (ev T)).all flat with
  | false => exact .inl rfl
  | true =>
    cases hp : prun P (execOp (evalA T) o) with
    | none => exact .inl rfl
    | some r =>
      cases r with
      | value v =>
        dsimp only [cond_true]
        rw [forceV_eq]
        cases hf : flat v with
        | false => exact .inl rfl
        | true =>
          refine .inr ⟨v, rfl, ?_⟩
          intro F a w ht
          have he : execOp a.eval o = execOp (evalA T) o := execOp_congr o hsel (fun x hx => by
            obtain ⟨y, hy, hc⟩ := hxs x hx
            rw [evalA_eq hc]
            refine flat_eq (evX ht hc hx) ?_
            rw [List.all_eq_true] at hall
            exact hall _ (List.mem_map.2 ⟨y, hy, rfl⟩))
          rw [he]
          exact ⟨v, prun_sound hp w, flat_refl F v hf⟩
      | _ => exact .inl rfl

theorem eqK_eq {a b : IntKind} (h : eqK a b = true) : a = b := by cases a <;> cases b <;> first | rfl | simp [eqK] at h
theorem addI_eq (a b : Int) : addI a b = a + b := by cases a <;> cases b <;> simp [addI] <;> rfl
theorem subI_eq (a b : Int) : subI a b = a - b := by
  cases a <;> cases b <;> simp only [subI]
  rename_i a b
  cases h : Nat.ble b a with
  | true =>
    have := Nat.le_of_ble_eq_true h
    simp only [cond_true]
    show ((Nat.sub a b : Nat) : Int) = (a : Int) - (b : Int)
    have e : Nat.sub a b = a - b := rfl
    rw [e]; omega
  | false =>
    have : ¬ b ≤ a := fun hh => by rw [Nat.ble_eq_true_of_le hh] at h; cases h
    simp only [cond_false, Int.negSucc_eq]
    have e : Nat.sub (Nat.sub b a) 1 = b - a - 1 := rfl
    rw [e]
    show _ = (a : Int) - (b : Int)
    omega
theorem ltI_eq (a b : Int) : ltI a b = decide (a < b) := by
  cases a <;> cases b <;> simp only [ltI]
  · rename_i a b
    rw [Bool.eq_iff_iff]; simp [Nat.blt_eq]
  · simp; omega
  · simp; omega
  · rename_i a b
    rw [Bool.eq_iff_iff]; simp [Nat.blt_eq]; omega
theorem leI_eq (a b : Int) : leI a b = decide (a ≤ b) := by
  cases a <;> cases b <;> simp only [leI]
  · rename_i a b
    rw [Bool.eq_iff_iff]; simp
  · simp; omega
  · simp; omega
  · rename_i a b
    rw [Bool.eq_iff_iff]; simp; omega
theorem eqI_eq (a b : Int) : eqI a b = (a == b) := by
  cases a <;> cases b <;> simp only [eqI]
  · rename_i a b
    rw [Bool.eq_iff_iff]; simp; omega
  · symm; simp
  · symm; simp
  · rename_i a b
    rw [Bool.eq_iff_iff]; simp
theorem fits_wrap {k : IntKind} {r : Int} (h : fits k r = true) : k.wrap r = r := by
  cases r with
  | ofNat m =>
    cases k <;> simp [fits, Nat.blt_eq] at h <;> simp [IntKind.wrap, IntKind.bits, IntKind.signed] <;> omega
  | negSucc m =>
    cases k <;> simp [fits, Nat.blt_eq] at h
    exact IntWalk.i64_in _ (by omega)

theorem VR.int_inv {F : FM} {k : IntKind} {n : Int} {v : Value} (h : VR F (.int k n) v) : v = .int k n := by cases h; rfl
theorem VR.bool_inv {F : FM} {b : Bool} {v : Value} (h : VR F (.bool b) v) : v = .bool b := by cases h; rfl

theorem run_typeInfo' {P : Program} {t : TypeId} {i : TypeInfo} (h : P.info? t = some i) (w : World) : (typeInfo t).run P w = .ok i w := by
  simp [typeInfo, program, Sem.run, h]
theorem run_sizeOf' {P : Program} {t : TypeId} {i : TypeInfo} (h : P.info? t = some i) (w : World) : (sizeOf t).run P w = .ok i.size w := by
  simp [sizeOf, run_typeInfo' h]

section
variable {β : Type} {P : Program} {d n : Nat} {o : Oper} {T : Tree Value}

theorem mv_sound {x : Operand} {y : X} (ho : o.op = .move x ∨ o.op = .assign x) (h : compX n x = some y) (z : β) (k : Value → β) :
    evP P (.mv y) T z k = z ∨ ∃ v, evP P (.mv y) T z k = k v ∧ PV P d n o T v := by
  refine .inr ⟨ev T y, evK_eq T y k, fun F a w ht => ⟨a.eval x, ?_, evX ht h (by rcases ho with ho | ho <;> simp [ho, Op.operands])⟩⟩
  rcases ho with ho | ho <;> simp [execOp, ho]

theorem pick_sound {c a b : Operand} {yc ya yb : X} (ho : o.op = .pick c a b) (hc : compX n c = some yc) (ha : compX n a = some ya) (hb : compX n b = some yb) (z : β) (k : Value → β) :
    evP P (.pick yc ya yb) T z k = z ∨ ∃ v, evP P (.pick yc ya yb) T z k = k v ∧ PV P d n o T v := by
  show pPick yc ya yb T z k = z ∨ ∃ v, pPick yc ya yb T z k = k v ∧ _
  unfold pPick
  rw [evK_eq]
  cases hv : ev T yc with
  | bool t =>
    dsimp only
    rw [ifK_eq, evK_eq, evK_eq]
    refine .inr ⟨if t then ev T ya else ev T yb, by cases t <;> rfl, fun F act w ht => ?_⟩
    have h1 := evX ht hc
    rw [hv] at h1
    have h1 := h1.bool_inv
    refine ⟨if t then act.eval a else act.eval b, ?_, ?_⟩
    · simp [execOp, ho, h1, asBool]
    · cases t
      · exact evX ht hb
      · exact evX ht ha
  | _ => exact .inl rfl

theorem optK_eq {β : Type} (r : Option Value) (z : β) (f : Value → β) : optK r z f = r.elim z f := by
  cases r with
  | none => rfl
  | some v => exact force1_eq v f
theorem binFK_eq {β : Type} (op : BinOp) (k : IntKind) (a b : Int) (z : β) (f : Value → β) : binFK op k a b z f = (intV op k a b).elim z f := by
  unfold binFK
  split <;> (try rw [forceI_eq]) <;> (try rw [forceB_eq])
  · cases hf : fits k (addI a b) with
    | false => simp only [cond_false]; exact optK_eq _ z f
    | true => have := fits_wrap hf; rw [addI_eq] at this ⊢; simp [intV, this]
  · cases hf : fits k (subI a b) with
    | false => simp only [cond_false]; exact optK_eq _ z f
    | true => have := fits_wrap hf; rw [subI_eq] at this ⊢; simp [intV, this]
  · simp [intV, ltI_eq]
  · simp [intV, leI_eq]
  · simp [intV, ltI_eq]
  · simp [intV, leI_eq]
  · simp [intV, eqI_eq]
  · simp [intV, eqI_eq, bne]
  · exact optK_eq _ z f
theorem binVK_eq {β : Type} (op : BinOp) (x y : Value) (z : β) (f : Value → β) : binVK op x y z f = (binV op x y).elim z f := by
  unfold binVK binV
  split
  · cases isShift op with
    | true => exact optK_eq _ z f
    | false =>
      simp only [cond_false]
      rename_i k a k' b
      cases eqK k k' with
      | false => rfl
      | true => exact binFK_eq op _ _ _ z f
  · exact optK_eq _ z f
  · rfl
theorem binV_flat {op : BinOp} {x y v : Value} (h : binV op x y = some v) : flat1 x = true ∧ flat1 y = true ∧ flat v = true := by
  unfold binV at h
  split at h
  · refine ⟨rfl, rfl, ?_⟩
    cases hs : isShift op with
    | true =>
      rw [hs] at h; simp only [cond_true] at h
      unfold shiftV at h
      split at h
      · cases h
      · split at h <;> cases h <;> rfl
    | false =>
      rw [hs] at h; simp only [cond_false] at h
      rename_i k a k' b
      cases hk : eqK k k' with
      | false => rw [hk] at h; cases h
      | true =>
        rw [hk] at h; simp only [cond_true] at h
        unfold intV at h
        split at h <;> first | (cases h; rfl) | (split at h <;> first | (cases h; done) | (cases h; rfl)) | cases h
  · refine ⟨rfl, rfl, ?_⟩
    unfold strV at h
    split at h <;> first | (cases h; rfl) | (split at h <;> first | (cases h; done) | (cases h; rfl)) | cases h
  · cases h
theorem run_binV {P : Program} {op : BinOp} {x y v : Value} (h : binV op x y = some v) (t : TypeId) (xo yo : Operand) (w : World) :
    (do eqGuard op t xo yo x y; binOp op t x y : Sem Value).run P w = .ok v w := by
  unfold binV at h
  split at h
  · rename_i k a k' b
    have hg : ∀ w, (eqGuard op t xo yo (.int k a) (.int k' b)).run P w = .ok () w := by
      intro w; cases op <;> simp [eqGuard]
    simp only [Sem.run_bind, hg, Result.andThen_ok]
    cases hs : isShift op with
    | true =>
      rw [hs] at h; simp only [cond_true] at h
      unfold shiftV at h
      split at h
      · cases h
      · rename_i hb
        cases op <;> simp [isShift] at hs <;> cases h <;> simp [binOp, Op.shift, hb]
    | false =>
      rw [hs] at h; simp only [cond_false] at h
      cases hk : eqK k k' with
      | false => rw [hk] at h; cases h
      | true =>
        rw [hk] at h; simp only [cond_true] at h
        have hk := eqK_eq hk
        subst hk
        cases op <;> simp [isShift] at hs <;> simp only [intV] at h <;> first
          | (cases h; simp [binOp, Op.intArith]; done)
          | (cases h; simp [binOp, Op.intBits]; done)
          | (cases h; simp [binOp, Op.intCmp]; done)
          | (split at h
             · cases h
             · rename_i hz; cases h; simp [binOp, Op.intDiv, hz])
          | cases h
  · rename_i a b
    have hg : ∀ w, (eqGuard op t xo yo (.string a) (.string b)).run P w = .ok () w := by
      intro w; cases op <;> simp [eqGuard]
    simp only [Sem.run_bind, hg, Result.andThen_ok]
    cases op <;> simp only [strV] at h <;> first
      | (cases h; simp [binOp, Op.stringOp]; done)
      | (split at h
         · cases h
         · rename_i hz; cases h; simp only [binOp, Op.stringOp, if_neg hz]; rfl)
      | cases h
  · cases h
theorem bin_sound {op : BinOp} {t yt : TypeId} {x y : Operand} {X1 Y1 : X} (ho : o.op = .binOp op t x y yt) (hx : compX n x = some X1) (hy : compX n y = some Y1) (z : β) (k : Value → β) :
    evP P (.bin op X1 Y1) T z k = z ∨ ∃ v, evP P (.bin op X1 Y1) T z k = k v ∧ PV P d n o T v := by
  show binK op X1 Y1 T z k = z ∨ ∃ v, binK op X1 Y1 T z k = k v ∧ _
  unfold binK
  rw [evK_eq, evK_eq, binVK_eq]
  cases hv : binV op (ev T X1) (ev T Y1) with
  | none => exact .inl rfl
  | some v =>
    refine .inr ⟨v, rfl, fun F act w ht => ?_⟩
    obtain ⟨f1, f2, f3⟩ := binV_flat hv
    have h1 := flat1_eq (evX ht hx) f1
    have h2 := flat1_eq (evX ht hy) f2
    refine ⟨v, ?_, flat_refl F v f3⟩
    have hr := run_binV (P := P) hv t x y w
    simp only [execOp, ho, h1, h2, Sem.run_bind] at hr ⊢
    rw [hr]; rfl
theorem unV_flat {op : UnOp} {x v : Value} (h : unV op x = some v) : flat1 x = true ∧ flat v = true := by
  unfold unV at h
  split at h <;> first | (cases h; exact ⟨rfl, rfl⟩) | cases h
theorem un_sound {op : UnOp} {t : TypeId} {x : Operand} {X1 : X} (ho : o.op = .unOp op t x) (hx : compX n x = some X1) (z : β) (k : Value → β) :
    evP P (.un op X1) T z k = z ∨ ∃ v, evP P (.un op X1) T z k = k v ∧ PV P d n o T v := by
  show unK op X1 T z k = z ∨ ∃ v, unK op X1 T z k = k v ∧ _
  unfold unK
  rw [evK_eq, optK_eq]
  cases hv : unV op (ev T X1) with
  | none => exact .inl rfl
  | some v =>
    refine .inr ⟨v, rfl, fun F act w ht => ?_⟩
    obtain ⟨f1, f3⟩ := unV_flat hv
    have h1 := flat1_eq (evX ht hx) f1
    refine ⟨v, ?_, flat_refl F v f3⟩
    unfold unV at hv
    split at hv
    · rename_i e; cases hv; simp [execOp, ho, h1, e, Op.unary, Op.intArith]
    · rename_i e; cases hv; simp [execOp, ho, h1, e, Op.unary, Op.intBits]
    · rename_i e; cases hv; simp [execOp, ho, h1, e, Op.unary]
    · cases hv
end
end Go.Clo
