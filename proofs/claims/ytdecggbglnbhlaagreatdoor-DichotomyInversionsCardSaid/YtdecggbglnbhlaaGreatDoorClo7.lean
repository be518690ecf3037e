/-
  The closed executor: the operations that read.
-/
import Derived.Test.YtdecggbglnbhlaaGreatDoorClo6
set_option linter.unusedSimpArgs false
set_option linter.unusedVariables false
set_option linter.unusedSectionVars false
namespace Go.Clo

structure HB (F : FM) (H : Heap) (nx : Nat) (w : World) : Prop where
  blk : ∀ i b, i < nx → getH H i = some b → ∃ t, F i = some t ∧ BR F t b w
  fresh : ∀ i, nx ≤ i → F i = none
theorem HR.hb {F : FM} {H : Heap} {nx : Nat} {w : World} (h : HR F H nx w) : HB F H nx w := ⟨h.blk, h.fresh⟩
theorem HB.lt {F : FM} {H : Heap} {nx : Nat} {w : World} (h : HB F H nx w) {i : Nat} {t : Tgt} (hi : F i = some t) : i < nx := by
  rcases Nat.lt_or_ge i nx with g | g
  · exact g
  · rw [h.fresh i g] at hi; cases hi
theorem HB.get {F : FM} {H : Heap} {nx : Nat} {w : World} (h : HB F H nx w) {i : Nat} {t : Tgt} {b : Blk} (hi : F i = some t) (hb : getH H i = some b) : BR F t b w := by
  obtain ⟨t', ht', hr⟩ := h.blk i b (h.lt hi) hb
  rw [hi] at ht'; cases ht'; exact hr

/-- The operation yields 'v' where the heap stands for the world's. -/
def RV (P : Program) (d n nx : Nat) (o : Oper) (T : Tree Value) (H : Heap) (v : Value) : Prop :=
  ∀ (F : FM) (a : Act) (w : World), OR n o F T a → HB F H nx w → ∃ v', (execOp a.eval o).run P w = .ok (.value v') w ∧ VR F v v'
theorem PV.rv {P : Program} {d n : Nat} {o : Oper} {T : Tree Value} {v : Value} (h : PV P d n o T v) (nx : Nat) (H : Heap) : RV P d n nx o T H v := fun F a w ht _ => h F a w ht

/-- A block's cells, whether they are written or only read. -/
def Blk.row : Blk → Option (List Value)
  | .cells c _ => some c
  | .rom c => some c
  | _ => none
theorem BR.row {F : FM} {t : Tgt} {b : Blk} {c : List Value} {w : World} (h : BR F t b w) (hc : b.row = some c) :
    ∃ c' e m, w.heap[t.blk]? = some (.cells c' e m) ∧ t.base + c.length ≤ c'.size ∧ VL F c ((c'.toList.drop t.base).take c.length) := by
  cases b with
  | cells c1 sl => cases hc; obtain ⟨c', e, h1, h2, h3, h4, h5, h6⟩ := h; exact ⟨c', e, _, h1, by omega, h6⟩
  | rom c1 => cases hc; obtain ⟨c', e, m, h1, h2, h3, h4, h5, h6⟩ := h; exact ⟨c', e, m, h1, by omega, h6⟩
  | map es k => cases hc
theorem row_cell {F : FM} {t : Tgt} {b : Blk} {c : List Value} {w : World} (h : BR F t b w) (hrow : b.row = some c) {j : Nat} {v : Value} (hv : c[j]? = some v) :
    ∃ v', w.cell? ⟨t.blk, t.base + j, none⟩ = some v' ∧ VR F v v' := by
  obtain ⟨c', e, m, h1, h5, h6⟩ := h.row hrow
  obtain ⟨v', hv', hr⟩ := h6.some hv
  refine ⟨v', ?_, hr⟩
  have hj : j < c.length := by
    rcases Nat.lt_or_ge j c.length with g | g
    · exact g
    · simp [List.getElem?_eq_none g] at hv
  simp [List.getElem?_take, hj] at hv'
  simp [World.cell?, h1, hv']

theorem takeN_eq {α : Type} : ∀ {n : Nat} {l r : List α}, takeN n l = some r → r = l.take n ∧ r.length = n
  | 0, l, r, h => by simp [takeN] at h; subst h; simp
  | n + 1, [], r, h => by simp [takeN] at h
  | n + 1, a :: l, r, h => by
    simp only [takeN] at h
    cases hq : takeN n l with
    | none => simp [hq] at h
    | some r' =>
      simp [hq] at h; subst h
      obtain ⟨h1, h2⟩ := takeN_eq hq
      simp [← h1, h2]
/-- A run of cells. -/
theorem row_run {F : FM} {P : Program} {t : Tgt} {b : Blk} {c : List Value} {w : World} (h : BR F t b w) (hrow : b.row = some c) {o m : Nat} {l : List Value} (hl : takeN m (c.drop o) = some l) :
    ∃ l', (∀ w2 : World, w2.heap = w.heap → (loadCells ⟨t.blk, t.base + o, none⟩ m).run P w2 = .ok l'.toArray w2) ∧ VL F l l' ∧ l.length = m := by
  obtain ⟨e1, e2⟩ := takeN_eq hl
  obtain ⟨c', e, mk, h1, h5, h6⟩ := h.row hrow
  have hv : VL F l (((((c'.toList.drop t.base).take c.length).drop o).take m)) := by rw [e1]; exact (h6.drop o).take m
  refine ⟨_, fun w2 hw2 => ?_, hv, e2⟩
  have hlen := hv.length
  have := run_loadCells_list (P := P) w2 ⟨t.blk, t.base + o, none⟩ ((((c'.toList.drop t.base).take c.length).drop o).take m) (fun j v hj => by
    rw [add_addr]
    have hj2 : j < m := by
      rcases Nat.lt_or_ge j m with g | g
      · exact g
      · simp [List.getElem?_take, Nat.not_lt.2 g] at hj
    have hoc : o + j < c.length := by
      rcases Nat.lt_or_ge (o + j) c.length with g | g
      · exact g
      · simp [List.getElem?_take, hj2, Nat.not_lt.2 g] at hj
    simp [List.getElem?_take, hj2, hoc] at hj
    simp [World.cell?, hw2, h1, Nat.add_assoc, hj])
  rw [← hlen, e2] at this
  exact this

theorem run_checkKey {P : Program} {t : TypeId} {kd : TypeDesc} {v : Value} (hu : P.underlying t = some kd) (hk : keyKind kd v = true) (e : Bool) (n : Nat) (w : World) : (Instr.checkKey e (n + 1) t v).run P w = .ok () w := by
  cases kd <;> cases v <;> simp [keyKind] at hk <;> simp [Instr.checkKey, run_underlying hu]
theorem flat_key {kd : TypeDesc} {v : Value} (hk : keyKind kd v = true) : flat1 v = true := by
  cases kd <;> cases v <;> simp [keyKind] at hk <;> rfl
theorem findNow_EL {F : FM} {kd : TypeDesc} {k : Value} {es es' : List MapEntry} (h : EL F es es') : ∀ (j : Nat),
    (Instr.findNow kd k es j = none → Instr.findNow kd k es' j = none) ∧
    (Instr.findNow kd k es j = some none → Instr.findNow kd k es' j = some none) ∧
    (∀ i v, Instr.findNow kd k es j = some (some (i, v)) → ∃ v', Instr.findNow kd k es' j = some (some (i, v')) ∧ VR F v v') := by
  induction h with
  | nil => intro j; simp [Instr.findNow]
  | @cons key v v' b l l' hk hv _ ih =>
    intro j
    simp only [Instr.findNow]
    cases hs : Instr.sameNow kd k key with
    | none => simp
    | some q =>
      cases q with
      | true =>
        refine ⟨by simp, by simp, ?_⟩
        intro i u h
        simp at h
        obtain ⟨rfl, rfl⟩ := h
        exact ⟨v', by simp, hv⟩
      | false => simpa using ih (j + 1)
theorem EL.length {F : FM} {l l' : List MapEntry} (h : EL F l l') : l.length = l'.length := by
  induction h with
  | nil => rfl
  | cons _ _ _ ih => simp [ih]
theorem run_getObj_map {P : Program} {w : World} {r : Nat} {es : Array MapEntry} {c : Nat} (h : w.heap[r]? = some (.map es c)) : (getObj r).run P w = .ok (.map es c) w := by
  simp [getObj, Sem.run, h]

section
variable {β : Type} {P : Program} {d n nx : Nat} {o : Oper} {T : Tree Value} {H : Heap}

theorem ld_val {sh : Option Nat} {t : TypeId} (hsh : shapeA P t = some sh) {F : FM} {b off : Nat} {tt : Tgt} {w : World} (hF : F b = some tt) (hb : HB F H nx w) {blk : Blk} (hg : getH H b = some blk) :
    ∀ (v : Value), (∃ (k : Value → Option Value), (∀ u, k u = some u) ∧ ldB off sh none k blk = some v) → ∃ v', (loadVar t ⟨tt.blk, tt.base + off, none⟩).run P w = .ok v' w ∧ VR F v v' := by
  intro v ⟨k, hk, h⟩
  obtain ⟨dd, i, hu, hi, rfl⟩ := shapeA_inv hsh
  have hbr := hb.get hF hg
  have main : ∀ c, blk.row = some c → ldC off (cond (isAggA dd) (some i.size) none) none k c = some v → ∃ v', (loadVar t ⟨tt.blk, tt.base + off, none⟩).run P w = .ok v' w ∧ VR F v v' := by
    intro c hrow h
    unfold ldC at h
    cases hd : isAggA dd with
    | false =>
      simp only [hd, cond_false] at h
      rw [nthK_eq] at h
      cases hv : c[off]? with
      | none => rw [hv] at h; cases h
      | some u =>
        rw [hv] at h
        simp only [Option.elim_some, hk, Option.some.injEq] at h
        subst h
        obtain ⟨v', hc, hr⟩ := row_cell hbr hrow hv
        exact ⟨v', by simp [loadVar, run_isAgg' hu, hd, hc], hr⟩
    | true =>
      simp only [hd, cond_true] at h
      split at h
      · rename_i l hl
        rw [spine_eq, hk] at h
        simp only [Option.some.injEq] at h
        subst h
        obtain ⟨l', hrun, hvl, hlen⟩ := row_run (P := P) hbr hrow hl
        refine ⟨.agg l'.toArray, ?_, ?_⟩
        · simp [loadVar, run_isAgg' hu, hd, run_sizeOf' hi, hrun w rfl]
        · exact VR.agg' hvl
      · cases h
  cases blk with
  | map es c => simp [ldB] at h
  | cells c sl => exact main c rfl h
  | rom c => exact main c rfl h

theorem ldC_cases (off : Nat) (sh : Option Nat) (z : β) (k : Value → β) (c : List Value) :
    ldC off sh z k c = z ∨ ∃ v, ldC off sh z k c = k v ∧ ldC off sh none some c = some v := by
  unfold ldC
  cases sh with
  | none =>
    dsimp only
    rw [nthK_eq, nthK_eq]
    cases c[off]? with
    | none => exact .inl rfl
    | some u => exact .inr ⟨u, rfl, rfl⟩
  | some m =>
    dsimp only
    split
    · rw [spine_eq, spine_eq]; exact .inr ⟨_, rfl, rfl⟩
    · exact .inl rfl
theorem ldB_cases (off : Nat) (sh : Option Nat) (z : β) (k : Value → β) (blk : Blk) :
    ldB off sh z k blk = z ∨ ∃ v, ldB off sh z k blk = k v ∧ ldB off sh none some blk = some v := by
  cases blk with
  | map es c => exact .inl rfl
  | cells c sl => exact ldC_cases off sh z k c
  | rom c => exact ldC_cases off sh z k c

/-- A load, as an operation and as a result's. -/
theorem rLd_sound {sh : Option Nat} {t : TypeId} (hsh : shapeA P t = some sh) (y : X) (z : β) (k : Value → β) :
    rLd y sh T H z k = z ∨ ∃ v, rLd y sh T H z k = k v ∧ ∀ (F : FM) (x' : Value) (w : World), VR F (ev T y) x' → HB F H nx w → ∃ a v', x' = .pointer (some a) ∧ (loadVar t a).run P w = .ok v' w ∧ VR F v v' := by
  unfold rLd
  rw [evK_eq]
  split
  · rename_i b off hv
    rw [getB_eq]
    cases hg : getH H b with
    | none => exact .inl rfl
    | some blk =>
      dsimp only [Option.elim_some]
      rcases ldB_cases off sh z k blk with h | ⟨v, h, h'⟩
      · exact .inl h
      · refine .inr ⟨v, h, fun F x' w hx hb => ?_⟩
        rw [hv] at hx
        obtain ⟨_, tt, hF, rfl⟩ := hx.ptr_inv
        obtain ⟨v', hr, hvr⟩ := ld_val (H := H) (nx := nx) hsh hF hb hg v ⟨some, fun _ => rfl, h'⟩
        exact ⟨_, v', rfl, hr, hvr⟩
  · exact .inl rfl

theorem ld_sound {t : TypeId} {x : Operand} {y : X} {sh : Option Nat} (ho : o.op = .load t x) (hx : compX n x = some y) (hsh : shapeA P t = some sh) (z : β) (k : Value → β) :
    evR P (.ld y sh) T H z k = z ∨ ∃ v, evR P (.ld y sh) T H z k = k v ∧ RV P d n nx o T H v := by
  rcases rLd_sound (nx := nx) (T := T) (H := H) hsh y z k with h | ⟨v, h, hp⟩
  · exact .inl h
  · refine .inr ⟨v, h, fun F a w ht hb => ?_⟩
    obtain ⟨ad, v', he, hr, hv⟩ := hp F (a.eval x) w (evX ht hx) hb
    exact ⟨v', by simp [execOp, ho, he, Instr.loadAt, Instr.sureAddr, hr], hv⟩

theorem lk_sound {t : TypeId} {x ix : Operand} {ok : Bool} {X1 I1 : X} {key elem : TypeId} {kd : TypeDesc} {ie : TypeInfo} {zero : Value} (ho : o.op = .lookup t x ix ok) (hx : compX n x = some X1) (hix : compX n ix = some I1)
    (hu : P.underlying t = some (.map key elem)) (hk : P.underlying key = some kd) (hie : P.info? elem = some ie) (hz : ie.zero = some zero) (hfl : flat zero = true) (z : β) (k : Value → β) :
    evR P (.lk kd zero X1 I1 ok) T H z k = z ∨ ∃ v, evR P (.lk kd zero X1 I1 ok) T H z k = k v ∧ RV P d n nx o T H v := by
  show rLk kd zero X1 I1 ok T H z k = z ∨ ∃ v, rLk kd zero X1 I1 ok T H z k = k v ∧ _
  unfold rLk
  rw [evK_eq, evK_eq]
  cases hkk : keyKind kd (ev T I1) with
  | false => exact .inl rfl
  | true =>
    dsimp only [cond_true]
    -- the entries
    have main : ∀ (es : List MapEntry), (∀ (F : FM) (a : Act) (w : World), OR n o F T a → HB F H nx w → ∃ es' : Array MapEntry, EL F es es'.toList ∧
          ((a.eval x = .map none ∧ es' = #[]) ∨ ∃ r c, a.eval x = .map (some r) ∧ w.heap[r]? = some (.map es' c))) →
        ((match Instr.findNow kd (ev T I1) es 0 with
          | some (some (_, v)) => cond ok (k (.tuple ⟨[v, .bool true]⟩)) (k v)
          | some none => cond ok (k (.tuple ⟨[zero, .bool false]⟩)) (k zero)
          | none => z) = z ∨ ∃ v, (match Instr.findNow kd (ev T I1) es 0 with
          | some (some (_, v)) => cond ok (k (.tuple ⟨[v, .bool true]⟩)) (k v)
          | some none => cond ok (k (.tuple ⟨[zero, .bool false]⟩)) (k zero)
          | none => z) = k v ∧ RV P d n nx o T H v) := by
      intro es hes
      split
      · rename_i j v hf
        refine .inr ⟨if ok then .tuple ⟨[v, .bool true]⟩ else v, by cases ok <;> rfl, fun F a w ht hb => ?_⟩
        obtain ⟨es', hel, hrun⟩ := hes F a w ht hb
        have hi := flat1_eq (evX ht hix) (flat_key hkk)
        obtain ⟨v', hf', hr⟩ := (findNow_EL (kd := kd) (k := ev T I1) hel 0).2.2 _ _ hf
        refine ⟨if ok then .tuple #[v', .bool true] else v', ?_, ?_⟩
        · rcases hrun with ⟨he, rfl⟩ | ⟨r, c, he, hw⟩
          · simp [Instr.findNow] at hf'
          · simp only [execOp, ho, Instr.lookup, Sem.run_bind, run_underlying hu, Result.andThen_ok, he, run_getObj_map hw, hi, run_checkKey hk hkk _ 9999, Instr.findKey, run_underlying hk, hf', Sem.run_pure]
        · cases ok
          · exact hr
          · exact VR.tuple' (.cons hr (.cons (.bool true) .nil))
      · rename_i hf
        refine .inr ⟨if ok then .tuple ⟨[zero, .bool false]⟩ else zero, by cases ok <;> rfl, fun F a w ht hb => ?_⟩
        obtain ⟨es', hel, hrun⟩ := hes F a w ht hb
        have hi := flat1_eq (evX ht hix) (flat_key hkk)
        have hf' := (findNow_EL (kd := kd) (k := ev T I1) hel 0).2.1 hf
        refine ⟨if ok then .tuple #[zero, .bool false] else zero, ?_, ?_⟩
        · rcases hrun with ⟨he, rfl⟩ | ⟨r, c, he, hw⟩
          · simp only [execOp, ho, Instr.lookup, Sem.run_bind, run_underlying hu, Result.andThen_ok, he, hi, run_checkKey hk hkk _ 9999, Instr.findKey, run_underlying hk, hf', Sem.run_pure, zeroValue, run_typeInfo' hie, hz]
          · simp only [execOp, ho, Instr.lookup, Sem.run_bind, run_underlying hu, Result.andThen_ok, he, run_getObj_map hw, hi, run_checkKey hk hkk _ 9999, Instr.findKey, run_underlying hk, hf', Sem.run_pure, zeroValue, run_typeInfo' hie, hz]
        · cases ok
          · exact flat_refl F zero hfl
          · exact VR.tuple' (.cons (flat_refl F zero hfl) (.cons (.bool false) .nil))
      · exact .inl rfl
    split
    · rename_i hv
      refine main [] (fun F a w ht _ => ⟨#[], .nil, .inl ⟨?_, rfl⟩⟩)
      have h1 := evX ht hx
      rw [hv] at h1
      generalize a.eval x = q at h1
      cases h1
      rfl
    · rename_i r hv
      rw [getB_eq]
      cases hg : getH H r with
      | none => exact .inl rfl
      | some blk =>
        dsimp only [Option.elim_some]
        split
        · rename_i l c
          refine main l (fun F a w ht hb => ?_)
          have h1 := evX ht hx
          rw [hv] at h1
          generalize a.eval x = q at h1
          cases h1 with
          | map hF =>
            obtain ⟨_, es', hw, hel⟩ := hb.get hF hg
            exact ⟨es', hel, .inr ⟨_, _, rfl, hw⟩⟩
        · exact .inl rfl
    · exact .inl rfl

theorem convI_sound {src dst : TypeId} {x : Operand} {y : X} {kd : IntKind} {sd : TypeDesc} (ho : o.op = .convert src dst x) (hx : compX n x = some y)
    (h1 : P.underlying dst = some (.int kd)) (h2 : P.underlying src = some sd) (z : β) (k : Value → β) :
    evR P (.convI kd y) T H z k = z ∨ ∃ v, evR P (.convI kd y) T H z k = k v ∧ RV P d n nx o T H v := by
  show rConvI kd y T H z k = z ∨ ∃ v, rConvI kd y T H z k = k v ∧ _
  unfold rConvI
  rw [evK_eq]
  split
  · rename_i k0 m hv
    have key : RV P d n nx o T H (.int kd (kd.wrap m)) := fun F a w ht _ => by
      have h3 := evX ht hx
      rw [hv] at h3
      have h3 := h3.int_inv
      refine ⟨.int kd (kd.wrap m), ?_, .int _ _⟩
      cases sd <;> simp [execOp, ho, h3, convert, run_underlying h1, run_underlying h2, Conv.intToInt]
    cases hf : fits kd m with
    | false => simp only [cond_false]; rw [forceI_eq]; exact .inr ⟨_, rfl, key⟩
    | true => simp only [cond_true]; have hw := fits_wrap hf; rw [hw] at key; exact .inr ⟨_, rfl, key⟩
  · exact .inl rfl
theorem conv_sound {src dst : TypeId} {x : Operand} {y : X} (ho : o.op = .convert src dst x) (hx : compX n x = some y) (z : β) (k : Value → β) :
    evR P (.conv y o) T H z k = z ∨ ∃ v, evR P (.conv y o) T H z k = k v ∧ RV P d n nx o T H v := by
  rcases scalK_sound (P := P) (d := d) (n := n) (T := T) (xs := [y]) (o := o) (by simp [ho]) (by simp only [ho, Op.operands]; intro q hq; simp at hq; subst hq; exact ⟨y, by simp, hx⟩) z k with h | ⟨v, h, hp⟩
  · exact .inl h
  · exact .inr ⟨v, h, hp.rv nx H⟩
end
end Go.Clo
