/-
  The closed executor: append and copy; the operations with an effect, joined.
-/
import Derived.Test.YtdecggbglnbhlaaGreatDoorCloB
set_option linter.unusedSimpArgs false
set_option linter.unusedVariables false
set_option linter.unusedSectionVars false
namespace Go.Clo

theorem flatL_bytes (F : FM) : ∀ (l : List UInt8), VL F (l.map fun b => Value.int .u8 b.toNat) (l.map fun b => Value.int .u8 b.toNat)
  | [] => .nil
  | b :: l => .cons (.int _ _) (flatL_bytes F l)

theorem first_sound {β : Type} {H : Heap} {nx size m : Nat} {x : Value} (z : β) (k : List Value → β) :
    firstK H size m x z k = z ∨ ∃ l, firstK H size m x z k = k l ∧ ∀ (F : FM) (P : Program) (x' : Value) (w : World), VR F x x' → HB F H nx w → ∃ l', (∀ w2 : World, w2.heap = w.heap → (Builtin.firstCells size m x').run P w2 = .ok l'.toArray w2) ∧ VL F l l' := by
  unfold firstK
  split
  · rename_i a len cap
    unfold rowK
    obtain ⟨b, o, s⟩ := a
    cases s with
    | some q => exact .inl rfl
    | none =>
      dsimp only
      rw [getB_eq]
      cases hg : getH H b with
      | none => exact .inl rfl
      | some blk =>
        have main : ∀ c, blk.row = some c → ((match takeN (m * size) (c.drop o) with
            | some l => spine l k
            | none => z) = z ∨ ∃ l, (match takeN (m * size) (c.drop o) with
            | some l => spine l k
            | none => z) = k l ∧ ∀ (F : FM) (P : Program) (x' : Value) (w : World), VR F (.slice (some ⟨b, o, none⟩) len cap) x' → HB F H nx w → ∃ l', (∀ w2 : World, w2.heap = w.heap → (Builtin.firstCells size m x').run P w2 = .ok l'.toArray w2) ∧ VL F l l') := by
          intro c hrow
          split
          · rename_i l hl
            rw [spine_eq]
            refine .inr ⟨l, rfl, fun F P x' w hx hb => ?_⟩
            obtain ⟨_, t, c', hF, rfl, _⟩ := hx.slice_inv
            obtain ⟨l', hrun, hvl, _⟩ := row_run (P := P) (hb.get hF hg) hrow hl
            exact ⟨l', fun w2 hw2 => by simp [Builtin.firstCells, hrun w2 hw2], hvl⟩
          · exact .inl rfl
        cases blk with
        | map es c => exact .inl rfl
        | rom c => exact main c rfl
        | cells c sl => exact main c rfl
  · refine .inr ⟨[], rfl, fun F P x' w hx _ => ⟨[], fun w2 _ => ?_, .nil⟩⟩
    have := hx.sliceN_inv; subst this
    simp [Builtin.firstCells]
  · rename_i s
    rw [forceL_eq]
    refine .inr ⟨_, rfl, fun F P x' w hx _ => ⟨_, fun w2 _ => ?_, flatL_bytes F _⟩⟩
    cases hx
    simp [Builtin.firstCells]
    apply Array.toList_inj.1
    simp [List.extract_eq_take_drop]
  · exact .inl rfl

theorem lenA_run {F : FM} {P : Program} {x x' : Value} {m : Nat} (h : lenA x = some m) (hx : VR F x x') (w : World) : (Builtin.lenOf x').run P w = .ok m w := by
  unfold lenA at h
  split at h
  · cases h; cases hx <;> simp [Builtin.lenOf]
  · cases h; cases hx; simp [Builtin.lenOf]
  · cases h

theorem nextcap_le (need c : Nat) (h : c < need) : Builtin.nextslicecap need c ≤ 2 * need + 1000 := by
  unfold Builtin.nextslicecap
  split
  · omega
  · split
    · omega
    · have grow : ∀ r q, q ≤ 2 * need + 1000 → (q < need → q + (q + 768) / 4 ≤ 2 * need + 1000) → Builtin.growBy need r q ≤ 2 * need + 1000 := by
        intro r
        induction r with
        | zero => intro q hq _; exact hq
        | succ r ih =>
          intro q hq hg
          simp only [Builtin.growBy]
          split
          · exact hq
          · exact ih _ (hg (by omega)) (fun h => by omega)
      exact grow 4 c (by omega) (by omega)

theorem run_askRoom {P : Program} (m : Nat) (w : World) : (askRoom m).run P w = .ok () w := by
  unfold askRoom
  split
  · rfl
  · rfl
theorem zeroCells_size (z : Array Value) (m : Nat) : (Builtin.zeroCells z m).size = m * z.size := by simp [Builtin.zeroCells]

theorem HB.drew {F : FM} {H : Heap} {nx : Nat} {w : World} (h : HB F H nx w) (q : Nat) : HB F H nx { w with drawn := q } :=
  ⟨fun i b hi hb => let ⟨t, ht, hr⟩ := h.blk i b hi hb; ⟨t, ht, hr.mono (fun _ _ h => h) rfl⟩, h.fresh⟩

section
variable {β : Type} {P : Program} {d n nx : Nat} {o : Oper} {T : Tree Value} {H : Heap}

/-- What append does, in the model's words: it fits. -/
theorem run_append_in {t u e : TypeId} {ud : TypeDesc} {i : TypeInfo} {at_ : Array TypeId} {ar : Array Value} (h0 : at_[0]? = some t) (h1 : at_[1]? = some u) (hu : P.underlying t = some (.slice e)) (huu : P.underlying u = some ud) (hud : ∀ k, ud ≠ .int k) (hi : P.info? e = some i)
    {base : Option Addr} {sLen c' m : Nat} {x' : Value} (ha0 : ar[0]? = some (.slice base sLen c')) (ha1 : ar[1]? = some x') {w : World} (hlen : (Builtin.lenOf x').run P w = .ok m w) {new : List Value}
    (hnew : (Builtin.firstCells i.size m x').run P w = .ok new.toArray w) (hfit : sLen + m ≤ c') (ty : TypeId) :
    (Builtin.append_ at_ ty ar).run P w = match base with
      | none => .ok (.slice none (sLen + m) c') w
      | some a => ((storeCells (a.add (sLen * i.size)) new).run P w).andThen fun _ w' => .ok (.slice (some a) (sLen + m) c') w' := by
  cases base with
  | none =>
    cases ud <;> first | exact absurd rfl (hud _) | simp only [Builtin.append_, h0, h1, ha0, ha1, Sem.run_bind, run_underlying hu, run_underlying huu, Result.andThen_ok, run_sizeOf' hi, Sem.run_pure, hlen, Bool.false_eq_true, if_false, hfit, Bool.not_false, if_true, hnew]
  | some a =>
    cases ud <;> first | exact absurd rfl (hud _) | simp only [Builtin.append_, h0, h1, ha0, ha1, Sem.run_bind, run_underlying hu, run_underlying huu, Result.andThen_ok, run_sizeOf' hi, Sem.run_pure, hlen, Bool.false_eq_true, if_false, hfit, Bool.not_false, if_true, hnew, List.toList_toArray]

/-- It does not fit: a new array, of a capacity that the tape names. -/
theorem run_append_out {t u e : TypeId} {ud : TypeDesc} {i : TypeInfo} {zv : Value} {at_ : Array TypeId} {ar : Array Value} (h0 : at_[0]? = some t) (h1 : at_[1]? = some u) (hu : P.underlying t = some (.slice e)) (huu : P.underlying u = some ud) (hud : ∀ k, ud ≠ .int k) (hi : P.info? e = some i) (hiz : i.zero = some zv)
    {base : Option Addr} {sLen c' m : Nat} {x' : Value} (ha0 : ar[0]? = some (.slice base sLen c')) (ha1 : ar[1]? = some x') {w : World} (hlen : (Builtin.lenOf x').run P w = .ok m w)
    (hfit : c' < sLen + m) (hb1 : (2 * (sLen + m) + 1000) * i.bytes ≤ 281474976710656) (hb2 : sLen + m ≤ 1000000000)
    {old new : List Value} (hold : ∀ q, (Builtin.firstCells i.size sLen (.slice base sLen c')).run P { w with drawn := q } = .ok old.toArray { w with drawn := q })
    (hnew : ∀ q, (Builtin.firstCells i.size m x').run P { w with drawn := q } = .ok new.toArray { w with drawn := q }) (ty : TypeId) :
    ∃ newCap, sLen + m ≤ newCap ∧ (Builtin.append_ at_ ty ar).run P w =
      .ok (.slice (some ⟨w.heap.size, 0, none⟩) (sLen + m) newCap) (({ w with drawn := w.drawn + 1 } : World).alloc (.cells (old.toArray ++ new.toArray ++ Builtin.zeroCells zv.cells (newCap - (sLen + m))) e (0, 0))) := by
  refine ⟨(sLen + m) + w.tape w.drawn (.appendCap (sLen + m) c' e) % (2 ^ 63 - (sLen + m)), Nat.le_add_right _ _, ?_⟩
  have n1 : ¬ (sLen + m ≤ c') := by omega
  have n2 : ¬ (((sLen + m : Nat) : Int) > IntKind.i64.max) := by
    have : IntKind.i64.max = 9223372036854775807 := by decide
    rw [this]; omega
  have n3 : ¬ (Builtin.nextslicecap (sLen + m) c' * i.bytes > 2 ^ 48) := by
    have h := Nat.mul_le_mul_right i.bytes (nextcap_le (sLen + m) c' hfit)
    have e : 2 ^ 48 = 281474976710656 := by decide
    rw [e]; omega
  have hch : (choose (.appendCap (sLen + m) c' e)).run P w = .ok ((sLen + m) + w.tape w.drawn (.appendCap (sLen + m) c' e) % (2 ^ 63 - (sLen + m))) { w with drawn := w.drawn + 1 } := by
    simp [choose, Sem.run, Question.forced, Question.cut]
  have hzv : ∀ w, (zeroValue e).run P w = .ok zv w := fun w => run_zero hi hiz w
  cases ud <;> first | exact absurd rfl (hud _) | (
    simp only [Builtin.append_, h0, h1, ha0, ha1, Sem.run_bind, run_underlying hu, run_underlying huu, Result.andThen_ok, run_sizeOf' hi, Sem.run_pure, hlen, Bool.false_eq_true, if_false, n1, run_typeInfo' hi, n2, false_and, n3, hch, run_askRoom, hold, Bool.not_false, if_true, hnew, hzv, run_newRow])

theorem app_real {c : Call} {s x : Operand} {t u : TypeId} {tl : List TypeId} {xl : List Operand} (ho : o.op = .call c) (hc : c.callee = .builtin .append) (ht' : c.argTypes.toList = t :: u :: tl) (ha : c.args.toList = s :: x :: xl) (a : Act) (w : World) :
    ∃ at_ : Array TypeId, ∃ ar : Array Value, at_[0]? = some t ∧ at_[1]? = some u ∧ ar[0]? = some (a.eval s) ∧ ar[1]? = some (a.eval x) ∧
      (execOp a.eval o).run P w = ((Builtin.append_ at_ o.type ar).run P w).andThen fun v w => .ok (.value v) w := by
  refine ⟨c.argTypes, c.args.map a.eval, ?_, ?_, ?_, ?_, ?_⟩
  · rw [← Array.getElem?_toList, ht']; rfl
  · rw [← Array.getElem?_toList, ht']; rfl
  · rw [Array.getElem?_map, ← Array.getElem?_toList, ha]; rfl
  · rw [Array.getElem?_map, ← Array.getElem?_toList, ha]; rfl
  · simp [execOp, ho, resolve, hc, invoke, builtin]
end
end Go.Clo
