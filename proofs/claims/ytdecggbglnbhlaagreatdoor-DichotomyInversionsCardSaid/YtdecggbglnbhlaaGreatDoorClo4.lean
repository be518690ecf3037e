/-
  The closed executor: the rest of the operations that only compute.
-/
import Derived.Test.YtdecggbglnbhlaaGreatDoorClo3
set_option linter.unusedSimpArgs false
set_option linter.unusedVariables false
set_option linter.unusedSectionVars false
namespace Go.Clo

theorem add_addr (b o n : Nat) : (⟨b, o, none⟩ : Addr).add n = ⟨b, o + n, none⟩ := by
  unfold Addr.add; split
  · rename_i h; subst h; rfl
  · rfl

theorem VR.ptr_inv {F : FM} {b o : Nat} {s : Option Nat} {v : Value} (h : VR F (.pointer (some ⟨b, o, s⟩)) v) : s = none ∧ ∃ t, F b = some t ∧ v = .pointer (some ⟨t.blk, t.base + o, none⟩) := by
  cases h with
  | ptr h => exact ⟨rfl, _, h, rfl⟩
theorem VR.slice_inv {F : FM} {b o n c : Nat} {s : Option Nat} {v : Value} (h : VR F (.slice (some ⟨b, o, s⟩) n c) v) :
    s = none ∧ ∃ t c', F b = some t ∧ v = .slice (some ⟨t.blk, t.base + o, none⟩) n c' ∧ (c' = c ∨ (0 < t.esz ∧ c ≤ c' ∧ o + c * t.esz = t.sz ∧ t.base + o + c' * t.esz ≤ t.rsz)) := by
  cases h with
  | slice h hc => exact ⟨rfl, _, _, h, rfl, hc⟩
theorem VR.sliceN_inv {F : FM} {n c : Nat} {v : Value} (h : VR F (.slice none n c) v) : v = .slice none n c := by cases h; rfl
theorem VR.agg_inv {F : FM} {x : Array Value} {v : Value} (h : VR F (.agg x) v) : ∃ x', v = .agg x' ∧ VL F x.toList x'.toList := by
  cases h with
  | agg h1 h2 => exact ⟨_, rfl, VL.ofArr h1 h2⟩
theorem VR.tuple_inv {F : FM} {x : Array Value} {v : Value} (h : VR F (.tuple x) v) : ∃ x', v = .tuple x' ∧ VL F x.toList x'.toList := by
  cases h with
  | tuple h1 h2 => exact ⟨_, rfl, VL.ofArr h1 h2⟩

theorem evXs {n : Nat} {o : Oper} {F : FM} {T : Tree Value} {a : Act} (ht : OR n o F T a) : ∀ {l : List Operand} {ys : List X}, compXs n l = some ys → (∀ x ∈ l, x ∈ o.op.operands) → VL F (ys.map (ev T)) (l.map a.eval)
  | [], ys, h, _ => by simp [compXs] at h; subst h; exact .nil
  | x :: l, ys, h, hm => by
    simp only [compXs] at h
    cases hx : compX n x with
    | none => simp [hx] at h
    | some y => cases hl : compXs n l with
      | none => simp [hx, hl] at h
      | some ys' =>
        simp [hx, hl] at h; subst h
        exact .cons (evX ht hx (hm x (by simp))) (evXs ht hl fun q hq => hm q (by simp [hq]))

inductive PL (F : FM) : List (Nat × Value) → List (Nat × Value) → Prop
  | nil : PL F [] []
  | cons {i : Nat} {v v' : Value} {l l' : List (Nat × Value)} (h : VR F v v') (t : PL F l l') : PL F ((i, v) :: l) ((i, v') :: l')
theorem evPs {n : Nat} {o : Oper} {F : FM} {T : Tree Value} {a : Act} (ht : OR n o F T a) : ∀ {l : List (Nat × Operand)} {ys : List (Nat × X)}, compPs n l = some ys → (∀ p ∈ l, p.2 ∈ o.op.operands) →
    PL F (ys.map fun p => (p.1, ev T p.2)) (l.map fun p => (p.1, a.eval p.2))
  | [], ys, h, _ => by simp [compPs] at h; subst h; exact .nil
  | (i, x) :: l, ys, h, hm => by
    simp only [compPs] at h
    cases hx : compX n x with
    | none => simp [hx] at h
    | some y => cases hl : compPs n l with
      | none => simp [hx, hl] at h
      | some ys' =>
        simp [hx, hl] at h; subst h
        exact .cons (evX ht hx (hm (i, x) (by simp))) (evPs ht hl fun q hq => hm q (by simp [hq]))
theorem evO {n : Nat} {o : Oper} {F : FM} {T : Tree Value} {a : Act} (ht : OR n o F T a) {x : Option Operand} {y : Option X} (h : compO n x = some y) (hm : ∀ q, x = some q → q ∈ o.op.operands) :
    (x = none ∧ y = none) ∨ ∃ x1 y1, x = some x1 ∧ y = some y1 ∧ VR F (ev T y1) (a.eval x1) := by
  cases x with
  | none => simp [compO] at h; exact .inl ⟨rfl, h.symm⟩
  | some x1 =>
    simp only [compO] at h
    cases hx : compX n x1 with
    | none => simp [hx] at h
    | some y1 => simp [hx] at h; exact .inr ⟨x1, y1, rfl, h.symm, evX ht hx (hm x1 rfl)⟩

/-! Filling. -/
theorem fold_set (off : Nat) : ∀ (vs : List Value) (k : Nat) (cells : Array Value), off + k + vs.length ≤ cells.size →
    ((vs.zipIdx k).foldl (fun cs (c, j) => cs.setIfInBounds (off + j) c) cells).toList = cells.toList.take (off + k) ++ vs ++ cells.toList.drop (off + k + vs.length)
  | [], k, cells, _ => by simp
  | v :: vs, k, cells, h => by
    simp only [List.zipIdx_cons, List.foldl_cons]
    rw [fold_set off vs (k + 1) _ (by simp at h ⊢; omega)]
    have e := list_seg_step cells.toList (off + k) v vs (by simp at h ⊢; omega)
    simpa [Array.toList_setIfInBounds, Nat.add_assoc] using e
theorem fill_sound {F : FM} {pl pl' : Nat → Option (Nat × Nat)} (hpl : ∀ i p, pl i = some p → pl' i = some p) {ps ps' : List (Nat × Value)} (hp : PL F ps ps') :
    ∀ {cells : List Value} {cells' : Array Value} {r : List Value}, VL F cells cells'.toList → fillA pl cells ps = some r → ∃ r', Instr.fill pl' cells' ps' = some r' ∧ VL F r r'.toList := by
  induction hp with
  | nil => intro cells cells' r hc h; simp [fillA] at h; subst h; exact ⟨cells', rfl, hc⟩
  | @cons i v v' l l' hv _ ih =>
    intro cells cells' r hc h
    rw [fillA] at h
    cases hi : pl i with
    | none => rw [hi] at h; cases h
    | some p =>
      obtain ⟨off, size⟩ := p
      rw [hi] at h
      dsimp only at h
      cases hb : (Nat.beq v.cells.toList.length size && Nat.ble (off + size) cells.length && notChan v) with
      | false => rw [hb] at h; cases h
      | true =>
        rw [hb] at h; simp only [cond_true] at h
        simp only [Bool.and_eq_true, Nat.ble_eq] at hb
        obtain ⟨⟨h1, h2⟩, hnc⟩ := hb
        have h1 := Nat.eq_of_beq_eq_true h1
        have hcl := hc.length
        have hvl := (hv.cells hnc).length
        have e : (v'.cells.zipIdx.foldl (fun cs (c, j) => cs.setIfInBounds (off + j) c) cells').toList = cells'.toList.take off ++ v'.cells.toList ++ cells'.toList.drop (off + size) := by
          have := fold_set off v'.cells.toList 0 cells' (by simp at hcl hvl h1; simp; omega)
          simp only [Nat.add_zero] at this
          rw [show off + size = off + v'.cells.toList.length by omega, ← this]
          rw [← Array.foldl_toList]
          simp
        obtain ⟨r', hr, hl⟩ := ih (cells' := v'.cells.zipIdx.foldl (fun cs (c, j) => cs.setIfInBounds (off + j) c) cells') (by rw [e]; exact ((hc.take off).append (hv.cells hnc)).append (hc.drop _)) h
        refine ⟨r', ?_, hl⟩
        simp only [Instr.fill, hpl i _ hi]
        have e1 : ¬ (v'.cells.size ≠ size || off + v'.cells.size > cells'.size) = true := by simp at hcl hvl h1; simp; omega
        rw [if_neg e1]
        exact hr

theorem placesA_eq {P : Program} : ∀ {fs : List Field} {pl : List (Nat × Nat)}, placesA P fs = some pl → fs.mapM (fun f => (P.info? f.type).map fun i => (f.offset, i.size)) = some pl
  | [], pl, h => by simp [placesA] at h; subst h; rfl
  | f :: fs, pl, h => by
    simp only [placesA] at h
    cases hi : P.info? f.type with
    | none => simp [hi] at h
    | some i => cases hl : placesA P fs with
      | none => simp [hi, hl] at h
      | some l =>
        simp [hi, hl] at h; subst h
        simp [List.mapM_cons, hi, placesA_eq hl]

theorem zeroA_inv {P : Program} {t : TypeId} {z : List Value} (h : zeroA P t = some z) : ∃ i v, P.info? t = some i ∧ i.zero = some v ∧ z = v.cells.toList ∧ flat v = true ∧ oneCells z = true ∧ z.length = i.size := by
  unfold zeroA at h
  cases hi : P.info? t with
  | none => simp [hi] at h
  | some i =>
    cases hz : i.zero with
    | none => simp [hi, hz] at h
    | some v =>
      rw [hi] at h; dsimp only at h; rw [hz] at h; dsimp only at h
      cases hb : (flat v && oneCells v.cells.toList && Nat.beq v.cells.toList.length i.size) with
      | false => rw [hb] at h; cases h
      | true =>
        rw [hb] at h; simp only [cond_true, Option.some.injEq] at h; subst h
        simp only [Bool.and_eq_true] at hb
        exact ⟨i, v, rfl, hz, rfl, hb.1.1, hb.1.2, Nat.eq_of_beq_eq_true hb.2⟩
theorem shapeA_inv {P : Program} {t : TypeId} {sh : Option Nat} (h : shapeA P t = some sh) : ∃ dd i, P.underlying t = some dd ∧ P.info? t = some i ∧ sh = cond (isAggA dd) (some i.size) none := by
  unfold shapeA at h
  cases hd : P.underlying t with
  | none => simp [hd] at h
  | some dd => cases hi : P.info? t with
    | none => simp [hd, hi] at h
    | some i => simp [hd, hi] at h; exact ⟨dd, i, rfl, rfl, h.symm⟩
theorem run_isAgg' {P : Program} {t : TypeId} {dd : TypeDesc} (h : P.underlying t = some dd) (w : World) : (isAgg t).run P w = .ok (isAggA dd) w := by
  cases dd <;> simp [isAgg, run_underlying h, isAggA]
theorem run_part' {P : Program} {t : TypeId} {sh : Option Nat} (h : shapeA P t = some sh) (cs : List Value) (off : Nat) {β : Type} (z : β) (k : Value → β) :
    cutK cs off sh z k = z ∨ ∃ v, cutK cs off sh z k = k v ∧ ∀ (F : FM) (cs' : Array Value) (w : World), VL F cs cs'.toList → ∃ v', (part t cs' off).run P w = .ok v' w ∧ VR F v v' := by
  obtain ⟨dd, i, hu, hi, rfl⟩ := shapeA_inv h
  unfold cutK
  cases hd : isAggA dd with
  | true =>
    simp only [cond_true]
    rw [spine_eq]
    refine .inr ⟨_, rfl, fun F cs' w hc => ⟨.agg (cs'.extract off (off + i.size)), ?_, ?_⟩⟩
    · simp [part, run_isAgg' hu, hd, run_sizeOf' hi]
    · have e : (cs'.extract off (off + i.size)) = ⟨(cs'.toList.drop off).take i.size⟩ := by
        apply Array.toList_inj.1
        simp [List.extract_eq_take_drop]
      rw [e]
      exact VR.agg' ((hc.drop off).take _)
  | false =>
    simp only [cond_false]
    rw [nthK_eq]
    cases hv : cs[off]? with
    | none => exact .inl rfl
    | some v =>
      refine .inr ⟨v, rfl, fun F cs' w hc => ?_⟩
      obtain ⟨v', hv', hr⟩ := hc.some hv
      refine ⟨v', ?_, hr⟩
      have : cs'[off]? = some v' := by simpa using hv'
      simp [part, run_isAgg' hu, hd, this]

section
variable {β : Type} {P : Program} {d n : Nat} {o : Oper} {T : Tree Value}

theorem fld_sound {s : TypeId} {x : Operand} {f : Nat} {y : X} {fs : Array Field} {fd : Field} {i : TypeInfo} (ho : o.op = .fieldAddr s x f) (hx : compX n x = some y) (hs : P.underlying s = some (.struct fs)) (hf : fs[f]? = some fd)
    (hi : P.info? fd.type = some i) (hz : i.size ≠ 0) (z : β) (k : Value → β) :
    evP P (.fld y fd.offset) T z k = z ∨ ∃ v, evP P (.fld y fd.offset) T z k = k v ∧ PV P d n o T v := by
  show pFld y fd.offset T z k = z ∨ ∃ v, pFld y fd.offset T z k = k v ∧ _
  unfold pFld
  rw [evK_eq]
  split
  · rename_i a hv
    obtain ⟨b, o', s'⟩ := a
    unfold offK
    rw [forceN_eq]
    refine .inr ⟨_, rfl, fun F act w ht => ?_⟩
    have h1 := evX ht hx
    rw [hv] at h1
    obtain ⟨rfl, t, hF, he⟩ := h1.ptr_inv
    refine ⟨.pointer (some ⟨t.blk, t.base + (o' + fd.offset), none⟩), ?_, .ptr hF⟩
    simp [execOp, ho, he, Instr.fieldAt, run_underlying hs, hf, Instr.sureAddr, fieldPlace, run_sizeOf' hi, hz, add_addr, Nat.add_assoc]
  · exact .inl rfl

theorem nilc_sound {x : Operand} {y : X} (ho : o.op = .nilCheck x) (hx : compX n x = some y) (z : β) (k : Value → β) :
    evP P (.nilc y) T z k = z ∨ ∃ v, evP P (.nilc y) T z k = k v ∧ PV P d n o T v := by
  show pNilc y T z k = z ∨ ∃ v, pNilc y T z k = k v ∧ _
  unfold pNilc
  rw [evK_eq]
  split
  · rename_i a hv
    obtain ⟨b, o', s'⟩ := a
    refine .inr ⟨_, rfl, fun F act w ht => ?_⟩
    have h1 := evX ht hx
    rw [hv] at h1
    have h2 := h1
    obtain ⟨rfl, t, hF, he⟩ := h1.ptr_inv
    rw [he] at h2
    exact ⟨_, by simp [execOp, ho, he], h2⟩
  · exact .inl rfl

theorem ext_sound {x : Operand} {i : Nat} {y : X} (ho : o.op = .extract x i) (hx : compX n x = some y) (z : β) (k : Value → β) :
    evP P (.ext y i) T z k = z ∨ ∃ v, evP P (.ext y i) T z k = k v ∧ PV P d n o T v := by
  show pExt y i T z k = z ∨ ∃ v, pExt y i T z k = k v ∧ _
  unfold pExt
  rw [evK_eq]
  split
  · rename_i vs hv
    rw [nthK_eq]
    cases hi : vs.toList[i]? with
    | none => exact .inl rfl
    | some v =>
      refine .inr ⟨v, rfl, fun F act w ht => ?_⟩
      have h1 := evX ht hx
      rw [hv] at h1
      obtain ⟨x', he, hl⟩ := h1.tuple_inv
      obtain ⟨v', hv', hr⟩ := hl.some hi
      have : x'[i]? = some v' := by simpa using hv'
      exact ⟨v', by simp [execOp, ho, he, Instr.extract, this], hr⟩
  · exact .inl rfl

theorem part_sound {t : TypeId} {x : Operand} {f : Nat} {y : X} {fs : Array Field} {fd : Field} {sh : Option Nat} (ho : o.op = .field t x f) (hx : compX n x = some y) (hs : P.underlying t = some (.struct fs)) (hf : fs[f]? = some fd)
    (hsh : shapeA P fd.type = some sh) (z : β) (k : Value → β) :
    evP P (.part y fd.offset sh) T z k = z ∨ ∃ v, evP P (.part y fd.offset sh) T z k = k v ∧ PV P d n o T v := by
  show pPart y fd.offset sh T z k = z ∨ ∃ v, pPart y fd.offset sh T z k = k v ∧ _
  unfold pPart
  rw [evK_eq]
  split
  · rename_i cs hv
    rcases run_part' (P := P) hsh cs.toList fd.offset z k with h | ⟨v, h, hp⟩
    · exact .inl h
    · refine .inr ⟨v, h, fun F act w ht => ?_⟩
      have h1 := evX ht hx
      rw [hv] at h1
      obtain ⟨x', he, hl⟩ := h1.agg_inv
      obtain ⟨v', hv', hr⟩ := hp F x' w hl
      exact ⟨v', by simp [execOp, ho, he, Instr.field, run_underlying hs, hf, asAgg, hv'], hr⟩
  · exact .inl rfl
end
end Go.Clo
