/-
  The closed executor: the operations with an effect.
-/
import Derived.Test.YtdecggbglnbhlaaGreatDoorCloA
import Derived.Laws.StructEq
set_option linter.unusedSimpArgs false
set_option linter.unusedVariables false
set_option linter.unusedSectionVars false
namespace Go.Clo

/-- The operation leaves a heap that stands for the world behind it. -/
def EV (P : Program) (d n : Nat) (o : Oper) (T : Tree Value) (H : Heap) (nx : Nat) (v : Value) (H' : Heap) (nx' : Nat) : Prop :=
  ∀ (F : FM) (a : Act) (w : World) (K : Act → World → Prop) (Q : Exit → Act → World → Prop), OR n o F T a → HR F H nx w →
    (∀ v' F' w', VR F' v v' → Stp F H nx w F' H' nx' w' → K (a.put o.dst v') w') → o.wp P a w K Q

def Enters (P : Program) (f : FuncId) : Prop := ∃ fn c, P.funcs[f]? = some fn ∧ fn.body = some c ∧ (fn.name == "runtime.NumGoroutine") = false
/-- A call of the function answers so. -/
def CS (P : Program) (f : FuncId) (args : List Value) (H : Heap) (nx : Nat) (v : Value) (H' : Heap) (nx' : Nat) : Prop :=
  Enters P f ∧ ∀ (F : FM) (args' : List Value) (w : World), HR F H nx w → VL F args args' →
    Calls P f args'.toArray w fun e w' => ∃ v' F', e = .returned v' ∧ VR F' v v' ∧ Stp F H nx w F' H' nx' w'
def CallOK {β : Type} (P : Program) (call : CallT β) : Prop :=
  ∀ f args H nx (z : β) k, call f args H nx z k = z ∨ ∃ v H' nx', call f args H nx z k = k v H' nx' ∧ CS P f args H nx v H' nx'

theorem VR.undef (F : FM) : VR F Go.undef Go.undef := VR.tuple' .nil

theorem wp_of_value {P : Program} {o : Oper} {a : Act} {w w' : World} {K : Act → World → Prop} {Q : Exit → Act → World → Prop} {v : Value} (h : (execOp a.eval o).run P w = .ok (.value v) w') (hk : K (a.put o.dst v) w') : o.wp P a w K Q := by
  unfold Oper.wp; rw [h]; exact hk
theorem wp_of_skip {P : Program} {o : Oper} {a : Act} {w w' : World} {K : Act → World → Prop} {Q : Exit → Act → World → Prop} (h : (execOp a.eval o).run P w = .ok .skip w') (hk : K (a.put o.dst Go.undef) w') : o.wp P a w K Q := by
  unfold Oper.wp; rw [h]; exact hk

theorem run_enter {P : Program} {f : FuncId} (he : Enters P f) (args : Array Value) (w : World) : (callFunc f args).run P w = .ok (.enter f args) w := by
  obtain ⟨fn, c, h1, h2, h3⟩ := he
  have h3' : ¬ fn.name = "runtime.NumGoroutine" := by simpa using h3
  simp [callFunc, program, Sem.run, h1, h2, h3']

section
variable {β : Type} {P : Program} {d n nx : Nat} {o : Oper} {T : Tree Value} {H : Heap}

theorem call_sound {c : Call} {f : Operand} {y : X} {ys : List X} (ho : o.op = .call c) (hc : c.callee = .value f) (hf : compX n f = some y) (hys : compXs n c.args.toList = some ys) {call : CallT β} (hcall : CallOK P call) (z : β) (k : Value → Heap → Nat → β) :
    evE (.call y ys) call T H nx z k = z ∨ ∃ v H' nx', evE (.call y ys) call T H nx z k = k v H' nx' ∧ EV P d n o T H nx v H' nx' := by
  show eCall y ys call T H nx z k = z ∨ ∃ v H' nx', eCall y ys call T H nx z k = k v H' nx' ∧ _
  unfold eCall
  rw [evK_eq]
  split
  · rename_i g first cap hv
    rw [evsK_eq, spine_eq]
    rcases hcall g (first ++ ys.map (ev T) ++ cap) H nx z k with h | ⟨v, H', nx', h, he, hcs⟩
    · exact .inl h
    · refine .inr ⟨v, H', nx', h, fun F a w K Q ht hr hk => ?_⟩
      have h1 := evX ht hf (by rw [ho]; simp [Op.operands, Call.operands, hc])
      rw [hv] at h1
      have h2 := evXs ht hys (by rw [ho]; intro q hq; simp [Op.operands, Call.operands, hc]; exact .inr (by simpa using hq))
      generalize hq : a.eval f = q at h1
      cases h1 with
      | @func _ x x' y' y'' e1 e2 e3 e4 =>
        have hx : VL F first x'.toList := VL.ofArr e1 e2
        have hy : VL F cap y''.toList := VL.ofArr e3 e4
        have hcalls := hcs F (x'.toList ++ c.args.toList.map a.eval ++ y''.toList) w hr ((hx.append h2).append hy)
        unfold Oper.wp
        have harr : (x'.toList ++ c.args.toList.map a.eval ++ y''.toList).toArray = x' ++ c.args.map a.eval ++ y'' := by
          apply Array.toList_inj.1; simp
        rw [harr] at hcalls
        have hrun : (execOp a.eval o).run P w = .ok (.enter g (x' ++ c.args.map a.eval ++ y'')) w := by
          simp only [execOp, ho, resolve, hc, hq, Deferred.ofValue, Sem.run_bind, Sem.run_pure, Result.andThen_ok, invoke]
          exact run_enter he _ w
        rw [hrun]
        simp only [Oper.upon]
        refine hcalls.mono fun e w' ⟨v', F', e1, hvr, hst⟩ => ?_
        subst e1
        exact hk v' F' w' hvr hst
  · exact .inl rfl

theorem st_sound {t : TypeId} {x v : Operand} {X1 V1 : X} {i : TypeInfo} (ho : o.op = .store t x v) (hx : compX n x = some X1) (hv : compX n v = some V1) (hi : P.info? t = some i) (call : CallT β) (z : β) (k : Value → Heap → Nat → β) :
    evE (.st X1 V1 i.size) call T H nx z k = z ∨ ∃ u H' nx', evE (.st X1 V1 i.size) call T H nx z k = k u H' nx' ∧ EV P d n o T H nx u H' nx' := by
  show eSt X1 V1 i.size call T H nx z k = z ∨ ∃ u H' nx', eSt X1 V1 i.size call T H nx z k = k u H' nx' ∧ _
  unfold eSt
  rw [evK_eq, evK_eq]
  split
  · rename_i a hxv
    obtain ⟨b, o', s'⟩ := a
    cases hb : (Nat.beq (ev T V1).cells.toList.length i.size && oneCells (ev T V1).cells.toList) with
    | false => exact .inl rfl
    | true =>
      dsimp only [cond_true]
      rw [Bool.and_eq_true] at hb
      rcases put_sound (F := fun _ => none) (H := H) (nx := nx) (b := b) (o' := o') (vs := (ev T V1).cells.toList) s' z (fun H => k undef H nx) with h | ⟨H', h, hp⟩
      · exact .inl h
      · refine .inr ⟨undef, H', nx, h, fun F act w K Q ht hr hk => ?_⟩
        have h1 := evX ht hx
        rw [hxv] at h1
        obtain ⟨rfl, tt, hF, he⟩ := h1.ptr_inv
        have h2 := (evX ht hv).cells (one_notChan hb.2)
        obtain ⟨w', hrun, hst⟩ := hp F P w tt _ hr hF h2 (oneCell_of h2 hb.2)
        have hlen : (act.eval v).cells.size = i.size := by
          have a := Nat.eq_of_beq_eq_true hb.1
          have b := h2.length
          simp at a b; omega
        refine wp_of_skip (w' := w') ?_ (hk undef F w' (VR.undef F) hst)
        simp only [execOp, ho, Instr.storeAt, he, Instr.sureAddr, Sem.run_bind, Sem.run_pure, Result.andThen_ok, storeVar, run_sizeOf' hi, hlen, ne_eq, not_true, if_false, hrun]
  · exact .inl rfl

theorem findNow_bound {kd : TypeDesc} {k : Value} : ∀ {es : List MapEntry} {j i : Nat} {v : Value}, Instr.findNow kd k es j = some (some (i, v)) → j ≤ i ∧ ∃ e, es[i - j]? = some e ∧ Instr.sameNow kd k e.key = some true
  | [], j, i, v, h => by simp [Instr.findNow] at h
  | e :: es, j, i, v, h => by
    simp only [Instr.findNow] at h
    cases hs : Instr.sameNow kd k e.key with
    | none => simp [hs] at h
    | some q =>
      cases q with
      | true =>
        simp [hs] at h
        obtain ⟨rfl, rfl⟩ := h
        exact ⟨Nat.le_refl _, e, by simp, hs⟩
      | false =>
        simp only [hs] at h
        obtain ⟨h1, e', h2, h3⟩ := findNow_bound h
        refine ⟨by omega, e', ?_, h3⟩
        have : i - j = (i - (j + 1)) + 1 := by omega
        rw [this]; simpa using h2
theorem same_key {kd : TypeDesc} {a b : Value} (h : Instr.sameNow kd a b = some true) : Instr.sameBits 10000 b a = true := by
  unfold Instr.sameNow at h
  split at h
  · split at h
    · rename_i e2; subst e2; simp at h; subst h; simp [Instr.sameBits]
    · cases h
  · simp only [Option.some.injEq] at h
    rw [beq_toListBytes] at h
    simp only [Instr.sameBits]
    rw [beq_toListBytes]
    simp at h; simp [h]
  · simp at h; subst h; simp [Instr.sameBits]
  · cases h
theorem setNth_eq {α : Type} : ∀ (l : List α) (i : Nat) (b : α), setNth l i b = l.set i b
  | [], i, b => by cases i <;> rfl
  | a :: l, 0, b => rfl
  | a :: l, i + 1, b => by simp [setNth, setNth_eq l i b]
theorem EL.set {F : FM} {l l' : List MapEntry} (h : EL F l l') {k v v' : Value} (hk : flat1 k = true) (hv : VR F v v') : ∀ {i : Nat} {e e' : MapEntry}, l[i]? = some e → l'[i]? = some e' → EL F (l.set i ⟨k, v, e.born⟩) (l'.set i ⟨k, v', e'.born⟩) ∧ e.born = e'.born ∧ e.key = e'.key := by
  induction h with
  | nil => intro i e e' h; simp at h
  | @cons k0 u u' b m m' hk0 hu t ih =>
    intro i e e' h1 h2
    cases i with
    | zero =>
      simp at h1 h2
      subst h1; subst h2
      exact ⟨.cons hk hv t, rfl, rfl⟩
    | succ i =>
      obtain ⟨g1, g2⟩ := ih (by simpa using h1) (by simpa using h2)
      exact ⟨.cons hk0 hu g1, g2⟩
theorem EL.snoc {F : FM} {l l' : List MapEntry} (h : EL F l l') {k v v' : Value} {b : Nat} (hk : flat1 k = true) (hv : VR F v v') : EL F (l ++ [⟨k, v, b⟩]) (l' ++ [⟨k, v', b⟩]) := by
  induction h with
  | nil => exact .cons hk hv .nil
  | cons hk0 hu _ ih => exact .cons hk0 hu ih
theorem EL.get {F : FM} {l l' : List MapEntry} (h : EL F l l') {i : Nat} {e : MapEntry} (hi : l[i]? = some e) : ∃ e', l'[i]? = some e' := by
  have := h.length
  have hl : i < l.length := by
    rcases Nat.lt_or_ge i l.length with g | g
    · exact g
    · simp [List.getElem?_eq_none g] at hi
  exact ⟨l'[i], by simp [← this, hl]⟩
theorem run_setObj_map {w : World} {r : Nat} {es : Array MapEntry} {c : Nat} (h : w.heap[r]? = some (.map es c)) (o : Obj) : (setObj r o).run P w = .ok () { w with heap := w.heap.setIfInBounds r o } := by
  simp [setObj, Sem.run, h]

theorem map_step {F : FM} {w : World} (hr : HR F H nx w) {r : Nat} {t : Tgt} {old : Blk} {es : List MapEntry} {es' : Array MapEntry} {c : Nat} (hF : F r = some t) (hg : getH H r = some old) (hro : old.isRom = false) (hb0 : t.base = 0) (hel : EL F es es'.toList) :
    Stp F H nx w F (hs H r (some (.map es c))) nx { w with heap := w.heap.setIfInBounds t.blk (.map es' c) } := by
  have hlt := (hr.hb.get hF hg).lt
  refine Stp.update hr (hr.hb.lt hF) hg hro rfl hF rfl rfl rfl (by simp) (fun k hk => ?_) ⟨hb0, es', ?_, hel⟩
  · simp [Array.getElem?_setIfInBounds_ne (Ne.symm hk)]
  · simp [hlt]

theorem upd_sound {t : TypeId} {m key v : Operand} {M1 K1 V1 : X} {kt et : TypeId} {kd : TypeDesc} (ho : o.op = .mapUpdate t m key v) (hm : compX n m = some M1) (hk : compX n key = some K1) (hv : compX n v = some V1)
    (hu : P.underlying t = some (.map kt et)) (hku : P.underlying kt = some kd) (call : CallT β) (z : β) (k : Value → Heap → Nat → β) :
    evE (.upd kd M1 K1 V1) call T H nx z k = z ∨ ∃ u H' nx', evE (.upd kd M1 K1 V1) call T H nx z k = k u H' nx' ∧ EV P d n o T H nx u H' nx' := by
  show eUpd kd M1 K1 V1 call T H nx z k = z ∨ ∃ u H' nx', eUpd kd M1 K1 V1 call T H nx z k = k u H' nx' ∧ _
  unfold eUpd
  rw [evK_eq, evK_eq, evK_eq]
  split
  · rename_i r hmv
    rw [getB_eq]
    cases hg : getH H r with
    | none => exact .inl rfl
    | some blk =>
      dsimp only [Option.elim_some]
      unfold updK
      split
      · rename_i es clock
        cases hkk : keyKind kd (ev T K1) with
        | false => exact .inl rfl
        | true =>
          dsimp only [cond_true]
          have prep : ∀ (F : FM) (a : Act) (w : World), OR n o F T a → HR F H nx w → ∃ tt es', F r = some tt ∧ a.eval m = .map (some tt.blk) ∧ tt.base = 0 ∧ w.heap[tt.blk]? = some (.map es' clock) ∧ EL F es es'.toList ∧ a.eval key = ev T K1 ∧ VR F (ev T V1) (a.eval v) := by
            intro F a w ht hr
            have h1 := evX ht hm
            rw [hmv] at h1
            generalize a.eval m = q at h1
            cases h1 with
            | @map _ tt hF =>
              obtain ⟨hb0, es', hw, hel⟩ := hr.hb.get hF hg
              exact ⟨tt, es', hF, rfl, hb0, hw, hel, flat1_eq (evX ht hk) (flat_key hkk), evX ht hv⟩
          split
          · rename_i i u hfi
            split
            · rename_i e hei
              rw [spine_eq, hsK_eq]
              refine .inr ⟨undef, _, nx, rfl, fun F a w K Q ht hr hkk' => ?_⟩
              obtain ⟨tt, es', hF, he, hb0, hw, hel, hke, hvr⟩ := prep F a w ht hr
              rw [nth_eq] at hei
              obtain ⟨e', hei'⟩ := hel.get hei
              obtain ⟨g1, g2, g3⟩ := hel.set (flat_key hkk) hvr hei hei'
              obtain ⟨u', hfi', _⟩ := (findNow_EL (kd := kd) (k := ev T K1) hel 0).2.2 _ _ hfi
              obtain ⟨_, e2, q1, q2⟩ := findNow_bound hfi'
              have hq : e2 = e' := by simp at q1; rw [← Array.getElem?_toList] at q1; rw [hei'] at q1; exact (Option.some.inj q1).symm
              subst hq
              have hmod : (es'.modify i fun q => { q with key := ev T K1, val := a.eval v }).toList = es'.toList.set i ⟨ev T K1, a.eval v, e2.born⟩ := by
                apply List.ext_getElem?
                intro j
                simp only [Array.getElem?_toList, Array.getElem?_modify, List.getElem?_set]
                by_cases hij : i = j
                · subst hij
                  have hi2 : i < es'.size := by
                    rcases Nat.lt_or_ge i es'.size with g | g
                    · exact g
                    · simp [g] at hei'
                  rw [Array.getElem?_toList] at hei'
                  have hb := (Array.getElem?_eq_some_iff.1 hei').2
                  simp [hi2, hb]
                · simp [hij]
              have hst := map_step (c := clock) hr hF hg rfl hb0 (es := setNth es i ⟨ev T K1, ev T V1, e.born⟩) (es' := es'.modify i fun q => { q with key := ev T K1, val := a.eval v }) (by rw [setNth_eq, hmod]; exact g1)
              refine wp_of_skip ?_ (hkk' undef F _ (VR.undef F) hst)
              have hsb := same_key q2
              have hkey : (((es'[i]?).map (·.key)).getD (ev T K1)) = e2.key := by
                rw [Array.getElem?_toList] at hei'; simp [hei']
              simp only [execOp, ho, Instr.mapUpdate, Sem.run_bind, run_underlying hu, Result.andThen_ok, he, run_getObj_map hw, hke, run_checkKey hku hkk _ 9999, Instr.findKey, run_underlying hku, hfi', Sem.run_pure, hkey, Instr.keyThatStays, hsb, if_true, run_setObj_map hw]
            · exact .inl rfl
          · rename_i hfi
            rw [spine_eq, forceN_eq, hsK_eq]
            refine .inr ⟨undef, _, nx, rfl, fun F a w K Q ht hr hkk' => ?_⟩
            obtain ⟨tt, es', hF, he, hb0, hw, hel, hke, hvr⟩ := prep F a w ht hr
            have hfi' := (findNow_EL (kd := kd) (k := ev T K1) hel 0).2.1 hfi
            have hst := map_step (c := clock + 1) hr hF hg rfl hb0 (es := es ++ [⟨ev T K1, ev T V1, clock⟩]) (es' := es'.push ⟨ev T K1, a.eval v, clock⟩) (by simpa using hel.snoc (flat_key hkk) hvr)
            refine wp_of_skip ?_ (hkk' undef F _ (VR.undef F) hst)
            simp only [execOp, ho, Instr.mapUpdate, Sem.run_bind, run_underlying hu, Result.andThen_ok, he, run_getObj_map hw, hke, run_checkKey hku hkk _ 9999, Instr.findKey, run_underlying hku, hfi', Sem.run_pure, run_setObj_map hw]
          · exact .inl rfl
      · exact .inl rfl
  · exact .inl rfl
end
end Go.Clo
