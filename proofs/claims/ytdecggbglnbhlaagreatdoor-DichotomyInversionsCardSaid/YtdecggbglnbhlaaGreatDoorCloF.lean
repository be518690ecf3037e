/-
  The closed executor: operations with an effect, joined; a region in its order.
-/
import Derived.Test.YtdecggbglnbhlaaGreatDoorCloE
set_option linter.unusedSimpArgs false
set_option linter.unusedVariables false
set_option linter.unusedSectionVars false
namespace Go.Clo

section
variable {β : Type} {P : Program} {d n nx : Nat} {o : Oper} {T : Tree Value} {H : Heap}

theorem copy_sound {c : Call} {s x : Operand} {t e : TypeId} {tl : List TypeId} {xl : List Operand} {S1 X1 : X} {i : TypeInfo} (ho : o.op = .call c) (hc : c.callee = .builtin .copy)
    (ht' : c.argTypes.toList = t :: tl) (ha : c.args.toList = s :: x :: xl) (hs : compX n s = some S1) (hx : compX n x = some X1) (hu : P.underlying t = some (.slice e)) (hi : P.info? e = some i) (call : CallT β) (z : β) (k : Value → Heap → Nat → β) :
    evE (.copy S1 X1 i.size) call T H nx z k = z ∨ ∃ v H' nx', evE (.copy S1 X1 i.size) call T H nx z k = k v H' nx' ∧ EV P d n o T H nx v H' nx' := by
  have hms : s ∈ o.op.operands := by rw [ho]; simp only [Op.operands, Call.operands, hc]; exact Array.mem_def.2 (by simp [ha])
  have hmx : x ∈ o.op.operands := by rw [ho]; simp only [Op.operands, Call.operands, hc]; exact Array.mem_def.2 (by simp [ha])
  have hex : ∀ (a : Act) (w : World), (execOp a.eval o).run P w = ((Builtin.copy_ c.argTypes o.type (c.args.map a.eval)).run P w).andThen fun v w => .ok (.value v) w := by
    intro a w; simp [execOp, ho, resolve, hc, invoke, builtin]
  have q0 : c.argTypes[0]? = some t := by rw [← Array.getElem?_toList, ht']; rfl
  have q1 : ∀ a : Act, (c.args.map a.eval)[0]? = some (a.eval s) := fun a => by rw [Array.getElem?_map, ← Array.getElem?_toList, ha]; rfl
  have q2 : ∀ a : Act, (c.args.map a.eval)[1]? = some (a.eval x) := fun a => by rw [Array.getElem?_map, ← Array.getElem?_toList, ha]; rfl
  show eCopy S1 X1 i.size call T H nx z k = z ∨ ∃ v H' nx', eCopy S1 X1 i.size call T H nx z k = k v H' nx' ∧ _
  unfold eCopy
  rw [evK_eq, evK_eq]
  split
  · rename_i base dLen cap m hsv hlx
    rw [forceN_eq]
    have hp0 := first_sound (H := H) (nx := nx) (size := i.size) (m := Nat.min m dLen) (x := ev T X1) (none : Option (List Value)) some
    rw [first_nat]
    cases hnw : firstK H i.size (Nat.min m dLen) (ev T X1) none some with
    | none => exact .inl rfl
    | some cs =>
      have hr0 : ∀ (F : FM) (P : Program) (x' : Value) (w : World), VR F (ev T X1) x' → HB F H nx w → ∃ l', (∀ w2 : World, w2.heap = w.heap → (Builtin.firstCells i.size (Nat.min m dLen) x').run P w2 = .ok l'.toArray w2) ∧ VL F cs l' := by
        rcases hp0 with h | ⟨l, h, hp⟩
        · rw [hnw] at h; cases h
        · rw [hnw] at h; cases h; exact hp
      dsimp only [Option.elim_some]
      cases hon : oneCells cs with
      | false => exact .inl rfl
      | true =>
        dsimp only [cond_true]
        split
        · refine .inr ⟨_, _, _, rfl, fun F a w K Q ht hr hk => ?_⟩
          have h1 := evX ht hs hms
          rw [hsv] at h1
          have he := h1.sliceN_inv
          obtain ⟨cs', hcr, hcv⟩ := hr0 F P (a.eval x) w (evX ht hx hmx) hr.hb
          refine wp_of_value (v := .int .i64 (.ofNat (Nat.min m dLen))) (w' := w) ?_ (hk _ F w (.int _ _) (Stp.refl hr))
          rw [hex]
          have q1' := q1 a
          rw [he] at q1'
          simp only [Builtin.copy_, q0, q1', q2 a, Sem.run_bind, run_underlying hu, Result.andThen_ok, lenA_run hlx (evX ht hx hmx) w, run_sizeOf' hi, hcr w rfl, Sem.run_pure, goInt]
          rfl
        · rename_i a0
          obtain ⟨b, o', s'⟩ := a0
          rcases put_sound (F := fun _ => none) (H := H) (nx := nx) (b := b) (o' := o') (vs := cs) s' z (fun H => k (.int .i64 (.ofNat (Nat.min m dLen))) H nx) with h | ⟨H', h, hp⟩
          · exact .inl h
          · refine .inr ⟨_, H', nx, h, fun F a w K Q ht hr hk => ?_⟩
            have h1 := evX ht hs hms
            rw [hsv] at h1
            obtain ⟨rfl, tt, c', hF, he, _⟩ := h1.slice_inv
            obtain ⟨cs', hcr, hcv⟩ := hr0 F P (a.eval x) w (evX ht hx hmx) hr.hb
            obtain ⟨w', hst, hstp⟩ := hp F P w tt cs' hr hF hcv (oneCell_of hcv hon)
            refine wp_of_value (v := .int .i64 (.ofNat (Nat.min m dLen))) (w' := w') ?_ (hk _ F w' (.int _ _) hstp)
            rw [hex]
            have q1' := q1 a
            rw [he] at q1'
            simp only [Builtin.copy_, q0, q1', q2 a, Sem.run_bind, run_underlying hu, Result.andThen_ok, lenA_run hlx (evX ht hx hmx) w, run_sizeOf' hi, hcr w rfl, Sem.run_pure, goInt, List.toList_toArray, hst]
            rfl
  · exact .inl rfl

theorem clrM_sound {c : Call} {x : Operand} {t kt et : TypeId} {X1 : X} (ho : o.op = .call c) (hc : c.callee = .builtin .clear)
    (ht' : c.argTypes.toList = [t]) (ha : c.args.toList = [x]) (hx : compX n x = some X1) (hu : P.underlying t = some (.map kt et)) (call : CallT β) (z : β) (k : Value → Heap → Nat → β) :
    evE (.clrM X1) call T H nx z k = z ∨ ∃ v H' nx', evE (.clrM X1) call T H nx z k = k v H' nx' ∧ EV P d n o T H nx v H' nx' := by
  have hmx : x ∈ o.op.operands := by rw [ho]; simp only [Op.operands, Call.operands, hc]; exact Array.mem_def.2 (by simp [ha])
  have hex : ∀ (a : Act) (w : World), (execOp a.eval o).run P w = ((Builtin.clear_ c.argTypes o.type (c.args.map a.eval)).run P w).andThen fun v w => .ok (.value v) w := by
    intro a w; simp [execOp, ho, resolve, hc, invoke, builtin]
  have q0 : c.argTypes[0]? = some t := by rw [← Array.getElem?_toList, ht']; rfl
  have q1 : ∀ a : Act, (c.args.map a.eval)[0]? = some (a.eval x) := fun a => by rw [Array.getElem?_map, ← Array.getElem?_toList, ha]; rfl
  show eClrM X1 call T H nx z k = z ∨ ∃ v H' nx', eClrM X1 call T H nx z k = k v H' nx' ∧ _
  unfold eClrM
  rw [evK_eq]
  split
  · rename_i hv
    refine .inr ⟨undef, H, nx, rfl, fun F a w K Q ht hr hk => ?_⟩
    have h1 := evX ht hx hmx
    rw [hv] at h1
    have he : a.eval x = .map none := by
      generalize a.eval x = q at h1
      cases h1; rfl
    refine wp_of_value (v := .tuple #[]) (w' := w) ?_ (hk _ F w (VR.undef F) (Stp.refl hr))
    rw [hex]
    have q1' := q1 a
    rw [he] at q1'
    simp only [Builtin.clear_, q0, q1', Sem.run_bind, run_underlying hu, Result.andThen_ok, Sem.run_pure]
  · rename_i r hv
    rw [getB_eq]
    cases hg : getH H r with
    | none => exact .inl rfl
    | some blk =>
      dsimp only [Option.elim_some]
      split
      · rename_i es clock
        rw [hsK_eq]
        refine .inr ⟨undef, _, nx, rfl, fun F a w K Q ht hr hk => ?_⟩
        have h1 := evX ht hx hmx
        rw [hv] at h1
        obtain ⟨tt, hF, he⟩ : ∃ tt, F r = some tt ∧ a.eval x = .map (some tt.blk) := by
          generalize a.eval x = q at h1
          cases h1 with
          | map hF => exact ⟨_, hF, rfl⟩
        obtain ⟨hb0, es', hw, hel⟩ := hr.hb.get hF hg
        have hst := map_step (c := clock) hr hF hg rfl hb0 (es := []) (es' := #[]) .nil
        refine wp_of_value (v := .tuple #[]) ?_ (hk _ F _ (VR.undef F) hst)
        rw [hex]
        have q1' := q1 a
        rw [he] at q1'
        simp only [Builtin.clear_, q0, q1', Sem.run_bind, run_underlying hu, Result.andThen_ok, Sem.run_pure, run_getObj_map hw, run_setObj_map hw]
      · exact .inl rfl
  · exact .inl rfl

theorem clrS_sound {c : Call} {x : Operand} {t e : TypeId} {X1 : X} {zero : List Value} (ho : o.op = .call c) (hc : c.callee = .builtin .clear)
    (ht' : c.argTypes.toList = [t]) (ha : c.args.toList = [x]) (hx : compX n x = some X1) (hu : P.underlying t = some (.slice e)) (hz : zeroA P e = some zero) (call : CallT β) (z : β) (k : Value → Heap → Nat → β) :
    evE (.clrS X1 zero) call T H nx z k = z ∨ ∃ v H' nx', evE (.clrS X1 zero) call T H nx z k = k v H' nx' ∧ EV P d n o T H nx v H' nx' := by
  have hmx : x ∈ o.op.operands := by rw [ho]; simp only [Op.operands, Call.operands, hc]; exact Array.mem_def.2 (by simp [ha])
  have hex : ∀ (a : Act) (w : World), (execOp a.eval o).run P w = ((Builtin.clear_ c.argTypes o.type (c.args.map a.eval)).run P w).andThen fun v w => .ok (.value v) w := by
    intro a w; simp [execOp, ho, resolve, hc, invoke, builtin]
  have q0 : c.argTypes[0]? = some t := by rw [← Array.getElem?_toList, ht']; rfl
  have q1 : ∀ a : Act, (c.args.map a.eval)[0]? = some (a.eval x) := fun a => by rw [Array.getElem?_map, ← Array.getElem?_toList, ha]; rfl
  obtain ⟨it, zv, hit, hiz, rfl, hfl, hone, hlen⟩ := zeroA_inv hz
  show eClrS X1 zv.cells.toList call T H nx z k = z ∨ ∃ v H' nx', eClrS X1 zv.cells.toList call T H nx z k = k v H' nx' ∧ _
  unfold eClrS
  rw [evK_eq]
  split
  · rename_i m cp hv
    refine .inr ⟨undef, H, nx, rfl, fun F a w K Q ht hr hk => ?_⟩
    have h1 := evX ht hx hmx
    rw [hv] at h1
    have he := h1.sliceN_inv
    refine wp_of_value (v := .tuple #[]) (w' := w) ?_ (hk _ F w (VR.undef F) (Stp.refl hr))
    rw [hex]
    have q1' := q1 a
    rw [he] at q1'
    simp only [Builtin.clear_, q0, q1', Sem.run_bind, run_underlying hu, Result.andThen_ok, Sem.run_pure]
  · rename_i a0 m cp hv
    obtain ⟨b, o', s'⟩ := a0
    cases hm : Nat.beq m 0 with
    | true =>
      have hm0 : m = 0 := Nat.eq_of_beq_eq_true hm
      subst hm0
      refine .inr ⟨undef, H, nx, rfl, fun F a w K Q ht hr hk => ?_⟩
      have h1 := evX ht hx hmx
      rw [hv] at h1
      obtain ⟨rfl, tt, c', hF, he, _⟩ := h1.slice_inv
      refine wp_of_value (v := .tuple #[]) (w' := w) ?_ (hk _ F w (VR.undef F) (Stp.refl hr))
      rw [hex]
      have q1' := q1 a
      rw [he] at q1'
      simp only [Builtin.clear_, q0, q1', Sem.run_bind, run_underlying hu, Result.andThen_ok, Sem.run_pure]
    | false =>
      have hm0 : m ≠ 0 := fun e => by subst e; simp at hm
      simp only [cond_false]
      cases hon : oneCells (repeatA zv.cells.toList m) with
      | false => exact .inl rfl
      | true =>
        simp only [cond_true]
        rcases put_sound (F := fun _ => none) (H := H) (nx := nx) (b := b) (o' := o') (vs := repeatA zv.cells.toList m) s' z (fun H => k undef H nx) with h | ⟨H', h, hp⟩
        · exact .inl h
        · refine .inr ⟨_, H', nx, h, fun F a w K Q ht hr hk => ?_⟩
          have h1 := evX ht hx hmx
          rw [hv] at h1
          obtain ⟨rfl, tt, c', hF, he, _⟩ := h1.slice_inv
          have hvl : VL F (repeatA zv.cells.toList m) (repeatA zv.cells.toList m) := VL.repeat (flat_cells hfl F) m
          obtain ⟨w', hst, hstp⟩ := hp F P w tt _ hr hF hvl (oneCell_of hvl hon)
          refine wp_of_value (v := .tuple #[]) (w' := w') ?_ (hk _ F w' (VR.undef F) hstp)
          rw [hex]
          have q1' := q1 a
          rw [he] at q1'
          have hzc : (Builtin.zeroCells zv.cells m).toList = repeatA zv.cells.toList m := repeat_eq zv.cells m
          obtain ⟨m', rfl⟩ : ∃ m', m = m' + 1 := ⟨m - 1, by omega⟩
          simp only [Builtin.clear_, q0, q1', Sem.run_bind, run_underlying hu, Result.andThen_ok, Sem.run_pure, run_zero hit hiz, hzc, hst]
  · exact .inl rfl

theorem soundE {i : IE} (hI : compI P n o = some (.e i)) {call : CallT β} (hcall : CallOK P call) (z : β) (k : Value → Heap → Nat → β) :
    evE i call T H nx z k = z ∨ ∃ v H' nx', evE i call T H nx z k = k v H' nx' ∧ EV P d n o T H nx v H' nx' := by
  have h := (compI_inv hI).resolve_right (by simp)
  clear hI
  unfold compI0 at h
  split at h
  case h_24 =>
    rename_i t x v ho
    split at h
    · rename_i h1 h2 h3; cases h; exact st_sound ho h1 h2 h3 call z k
    · cases h
  case h_25 =>
    rename_i t m key v ho
    split at h
    · rename_i h1 h2 h3 h4
      cases hk : P.underlying _ with
      | none => rw [hk] at h; cases h
      | some kd => rw [hk] at h; cases h; exact upd_sound ho h1 h2 h3 h4 hk call z k
    · cases h
  case h_26 =>
    rename_i c ho
    split at h
    case h_1 =>
      rename_i f hc
      split at h
      · rename_i h1 h2; cases h; exact call_sound ho hc h1 h2 hcall z k
      · cases h
    case h_2 =>
      rename_i hc
      split at h
      · rename_i t u tl s x xl h1 h2
        split at h
        · rename_i g1 g2 g3 g4
          split at h
          · rename_i z0 inf g5 g6
            split at h
            · cases h
            · rename_i hud
              cases hb : Nat.blt 0 inf.size with
              | false => rw [hb] at h; cases h
              | true => rw [hb] at h; cases h; exact app_sound ho hc h1 h2 g1 g2 g3 g4 (fun k' e => hud k' e) g5 g6 (by simpa using hb) call z k
          · cases h
        · cases h
      · cases h
    case h_3 =>
      rename_i hc
      split at h
      · rename_i t tl s x xl h1 h2
        split at h
        · rename_i g1 g2 g3
          cases hk : P.info? _ with
          | none => rw [hk] at h; cases h
          | some inf => rw [hk] at h; cases h; exact copy_sound ho hc h1 h2 g1 g2 g3 hk call z k
        · cases h
      · cases h
    all_goals first
      | (cases h; done)
      | (split at h <;> cases h; done)
      | (rename_i hc; split at h
         · rename_i t x h1 h2
           split at h
           · rename_i g1 g2; cases h; exact clrM_sound ho hc h1 h2 g1 g2 call z k
           · rename_i g1 g2
             cases hz : zeroA P _ with
             | none => rw [hz] at h; cases h
             | some zero => rw [hz] at h; cases h; exact clrS_sound ho hc h1 h2 g1 g2 hz call z k
           · cases h
         · cases h
         done)
      | (repeat' (first | (cases h; done) | split at h))
      | skip
    all_goals first
      | (rw [Bool.cond_eq_ite] at h; split at h <;> cases h; done)
      | (rw [Option.map_eq_some_iff] at h; obtain ⟨_, _, h⟩ := h; cases h; done)
  all_goals first
    | (cases h; done)
    | (split at h <;> cases h; done)
    | (repeat' (first | (cases h; done) | split at h))
    | skip
  all_goals first
    | (rw [Bool.cond_eq_ite] at h; split at h <;> cases h; done)
    | (rw [Option.map_eq_some_iff] at h; obtain ⟨_, _, h⟩ := h; cases h; done)
end

/-! Slots. -/

theorem TR.put {d : Nat} {F : FM} {T : Tree Value} {n : Nat} {a : Act} (ht : TR d F T n a.tmps) {t : Nat} (htn : t < n) {v v' : Value} (hv : VR F v v') : TR d F (ts d T t v) n (a.put (some t) v').tmps := by
  have hlt : ∀ j, j < n → j < 2 ^ d := fun j hj => Nat.lt_of_lt_of_le hj ht.le
  refine ⟨WF_ts d T t v ht.wf, by simp [Act.put, ht.size], ht.le, fun j hj => ?_⟩
  rw [tg_ts d T t j v ht.wf (hlt t htn) (hlt j hj)]
  by_cases e : j = t
  · subst e
    simp [Act.put, ht.size, hj]; exact hv
  · have := ht.get j hj
    simp only [e, if_false]
    have e2 : (a.put (some t) v').tmps.getD j undef = a.tmps.getD j undef := by
      simp [Act.put, Array.getElem?_setIfInBounds_ne (Ne.symm e)]
    rw [e2]; exact this
/-- Two stores of slots that part in the slots W alone. -/
def Agr (n : Nat) (W : List Nat) (T T' : Tree Value) : Prop := ∀ j, j < n → j ∉ W → (tg T' j).getD undef = (tg T j).getD undef
theorem Agr.refl (n : Nat) (W : List Nat) (T : Tree Value) : Agr n W T T := fun _ _ _ => rfl
theorem Agr.trans {n : Nat} {W W' : List Nat} {T T1 T2 : Tree Value} (h : Agr n W T T1) (h' : Agr n W' T1 T2) : Agr n (W ++ W') T T2 := fun j hj hn => by
  rw [List.mem_append] at hn
  exact (h' j hj (fun h => hn (.inr h))).trans (h j hj (fun h => hn (.inl h)))
theorem Agr.mono {n : Nat} {W W' : List Nat} {T T1 : Tree Value} (h : Agr n W T T1) (hs : ∀ j ∈ W, j ∈ W') : Agr n W' T T1 := fun j hj hn => h j hj (fun hh => hn (hs j hh))
theorem agr_put {d n t : Nat} {T : Tree Value} (hn : n ≤ 2 ^ d) (ht : t < n) (hw : WF d T) (v : Value) : Agr n [t] T (ts d T t v) := fun j hj hne => by
  rw [tg_ts d T t j v hw (by omega) (by omega), if_neg (by simpa using hne)]
theorem putK_sound {β : Type} {d : Nat} {dst : Option Nat} {v : Value} {T : Tree Value} (k : Tree Value → β) :
    ∃ T', putK d dst v T k = k T' ∧ (WF d T → WF d T' ∧ ∀ n, n ≤ 2 ^ d → (∀ t, dst = some t → t < n) → Agr n dst.toList T T') ∧ ∀ (F : FM) (n : Nat) (a : Act) (v' : Value), (∀ t, dst = some t → t < n) → TR d F T n a.tmps → VR F v v' → TR d F T' n (a.put dst v').tmps := by
  cases dst with
  | none => exact ⟨T, rfl, fun h => ⟨h, fun n _ _ => Agr.refl _ _ _⟩, fun F n a v' _ ht _ => ht⟩
  | some t =>
    refine ⟨ts d T t v, tsK_eq d T t v k, fun h => ⟨WF_ts d T t v h, fun n hn hlt => agr_put hn (hlt t rfl) h v⟩, fun F n a v' hlt ht hv => ht.put (hlt t rfl) hv⟩

/-- What stands for the guard's slot. -/
def GR (g : Option (Nat × Bool)) (F : FM) (T : Tree Value) (a : Act) : Prop := ∀ t want, g = some (t, want) → t < a.tmps.size ∧ VR F ((tg T t).getD undef) (a.tmps.getD t undef)
/-- Is the operation wanted? -/
theorem wantK_sound {β : Type} {n : Nat} {ops : List Oper} {o : Oper} {g : Option (Nat × Bool)} (hg : compG n ops o.guard = some g) (T : Tree Value) (z yes no : β) :
    wantK g T z yes no = z ∨ (wantK g T z yes no = yes ∧ ∀ (F : FM) (a : Act), GR g F T a → Region.wanted o (yielded ops.toArray a.tmps) = true) ∨
    (wantK g T z yes no = no ∧ ∀ (F : FM) (a : Act), GR g F T a → Region.wanted o (yielded ops.toArray a.tmps) = false) := by
  cases hgd : o.guard with
  | none =>
    rw [hgd] at hg; simp [compG] at hg; subst hg
    exact .inr (.inl ⟨rfl, fun F a _ => by simp [Region.wanted, hgd]⟩)
  | some jw =>
    obtain ⟨j, want⟩ := jw
    rw [hgd] at hg
    simp only [compG] at hg
    cases hj : nth ops j with
    | none => simp [hj] at hg
    | some oj =>
      cases hd : oj.dst with
      | none => simp [hj, hd] at hg
      | some t =>
        simp only [hj, hd] at hg
        cases hb : Nat.blt t n with
        | false => rw [hb] at hg; cases hg
        | true =>
          rw [hb] at hg; cases hg
          have hy : ∀ (F : FM) (a : Act), GR (some (t, want)) F T a → ∃ v', VR F ((tg T t).getD undef) v' ∧ yielded ops.toArray a.tmps j = (match v' with | .bool b => some b | _ => none) := by
            intro F a ht
            obtain ⟨hsz, hvr⟩ := ht t want rfl
            refine ⟨a.tmps.getD t undef, hvr, ?_⟩
            rw [nth_eq] at hj
            simp only [yielded, List.getElem?_toArray, hj, Option.bind_some, hd, Array.getElem?_eq_getElem hsz]
            have : a.tmps.getD t undef = a.tmps[t] := by simp [hsz]
            rw [this]
            cases a.tmps[t] <;> rfl
          unfold wantK
          dsimp only
          rw [tgK_eq]
          cases hv : tg T t with
          | none =>
            refine .inr (.inr ⟨rfl, fun F a ht => ?_⟩)
            obtain ⟨v', hvr, he⟩ := hy F a ht
            rw [hv] at hvr
            cases hvr
            simp [Region.wanted, hgd, he]
          | some v =>
            dsimp only [Option.elim_some]
            split
            · rename_i b
              rw [ifK_eq]
              have key : ∀ (F : FM) (a : Act), GR (some (t, want)) F T a → Region.wanted o (yielded ops.toArray a.tmps) = cond b want (!want) := by
                intro F a ht
                obtain ⟨v', hvr, he⟩ := hy F a ht
                rw [hv] at hvr
                have := VR.bool_inv hvr
                subst this
                simp only [Region.wanted, hgd, he]
                cases b <;> cases want <;> rfl
              cases hc : cond b want (!want) with
              | true => exact .inr (.inl ⟨rfl, fun F a ht => by rw [key F a ht, hc]⟩)
              | false => exact .inr (.inr ⟨rfl, fun F a ht => by rw [key F a ht, hc]⟩)
            · exact .inl rfl
            · rename_i hnb hnc
              refine .inr (.inr ⟨rfl, fun F a ht => ?_⟩)
              obtain ⟨v', hvr, he⟩ := hy F a ht
              rw [hv] at hvr
              simp only [Option.getD_some] at hvr
              have : ∀ b, v' ≠ .bool b := by
                intro b hb; subst hb
                cases hvr
                · exact hnc _ rfl
                · exact hnb b rfl
              simp only [Region.wanted, hgd, he]
              cases v' <;> first | rfl | exact absurd rfl (this _)
end Go.Clo
