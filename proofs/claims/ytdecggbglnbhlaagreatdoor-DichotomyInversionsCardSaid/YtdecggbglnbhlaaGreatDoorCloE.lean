/-
  The closed executor: all operations with an effect.
-/
import Derived.Test.YtdecggbglnbhlaaGreatDoorCloD
set_option linter.unusedSimpArgs false
set_option linter.unusedVariables false
set_option linter.unusedSectionVars false
namespace Go.Clo

theorem first_slice {H : Heap} {size m b o' len cap : Nat} {s : Option Nat} {z : Option (List Value)} {l : List Value} (h : firstK H size m (.slice (some ⟨b, o', s⟩) len cap) none some = some l) :
    s = none ∧ ∃ blk c, getH H b = some blk ∧ blk.row = some c ∧ takeN (m * size) (c.drop o') = some l := by
  unfold firstK rowK at h
  cases s with
  | some q => simp at h
  | none =>
    dsimp only at h
    rw [getB_eq] at h
    cases hg : getH H b with
    | none => simp [hg] at h
    | some blk =>
      rw [hg] at h
      cases blk with
      | map es c => simp at h
      | cells c sl =>
        dsimp only [Option.elim_some] at h
        split at h
        · rename_i l' hl
          rw [spine_eq] at h
          cases h
          exact ⟨rfl, _, c, rfl, rfl, hl⟩
        · cases h
      | rom c =>
        dsimp only [Option.elim_some] at h
        split at h
        · rename_i l' hl
          rw [spine_eq] at h
          cases h
          exact ⟨rfl, _, c, rfl, rfl, hl⟩
        · cases h
theorem first_nat {β : Type} (H : Heap) (size m : Nat) (x : Value) (z : β) (k : List Value → β) : firstK H size m x z k = (firstK H size m x none some).elim z k := by
  unfold firstK
  split
  · unfold rowK
    split
    · rw [getB_eq, getB_eq]
      cases getH H _ with
      | none => rfl
      | some blk =>
        cases blk with
        | map es c => rfl
        | cells c sl =>
          dsimp only [Option.elim_some]
          split
          · rw [spine_eq, spine_eq]; rfl
          · rfl
        | rom c =>
          dsimp only [Option.elim_some]
          split
          · rw [spine_eq, spine_eq]; rfl
          · rfl
    · rfl
  · rfl
  · rw [forceL_eq, forceL_eq]; rfl
  · rfl

section
variable {β : Type} {P : Program} {d n nx : Nat} {o : Oper} {T : Tree Value} {H : Heap}

theorem app_sound {c : Call} {s x : Operand} {t u e : TypeId} {ud : TypeDesc} {tl : List TypeId} {xl : List Operand} {S1 X1 : X} {i : TypeInfo} {z0 : List Value} (ho : o.op = .call c) (hc : c.callee = .builtin .append)
    (ht' : c.argTypes.toList = t :: u :: tl) (ha : c.args.toList = s :: x :: xl) (hs : compX n s = some S1) (hx : compX n x = some X1) (hu : P.underlying t = some (.slice e)) (huu : P.underlying u = some ud) (hud : ∀ k, ud ≠ .int k)
    (hz0 : zeroA P e = some z0) (hi : P.info? e = some i) (hsz : 0 < i.size) (call : CallT β) (z : β) (k : Value → Heap → Nat → β) :
    evE (.app S1 X1 i.size i.bytes) call T H nx z k = z ∨ ∃ v H' nx', evE (.app S1 X1 i.size i.bytes) call T H nx z k = k v H' nx' ∧ EV P d n o T H nx v H' nx' := by
  have hms : s ∈ o.op.operands := by rw [ho]; simp only [Op.operands, Call.operands, hc]; exact Array.mem_def.2 (by simp [ha])
  have hmx : x ∈ o.op.operands := by rw [ho]; simp only [Op.operands, Call.operands, hc]; exact Array.mem_def.2 (by simp [ha])
  obtain ⟨it, zv, hit, hiz, hzc, hfl, hone0, hzl⟩ := zeroA_inv hz0
  rw [hi] at hit; cases hit
  have hzs : zv.cells.size = i.size := by rw [hzc] at hzl; simpa using hzl
  show (evK T S1 fun vs => evK T X1 fun vx => appK H nx i.size i.bytes vs vx z k) = z ∨ ∃ v H' nx', (evK T S1 fun vs => evK T X1 fun vx => appK H nx i.size i.bytes vs vx z k) = k v H' nx' ∧ _
  rw [evK_eq, evK_eq]
  unfold appK
  split
  · rename_i base sLen sCap m hsv hlx
    rw [forceN_eq]
    cases hb : (Nat.ble ((2 * (sLen + m) + 1000) * i.bytes) 281474976710656 && Nat.ble (sLen + m) 1000000000) with
    | false => exact .inl rfl
    | true =>
      dsimp only [cond_true]
      simp only [Bool.and_eq_true, Nat.ble_eq] at hb
      obtain ⟨hb1, hb2⟩ := hb
      have hnewp := first_sound (H := H) (nx := nx) (size := i.size) (m := m) (x := ev T X1) (none : Option (List Value)) some
      rw [first_nat]
      cases hnw : firstK H i.size m (ev T X1) none some with
      | none => exact .inl rfl
      | some new =>
        have hnewr : ∀ (F : FM) (P : Program) (x' : Value) (w : World), VR F (ev T X1) x' → HB F H nx w → ∃ l', (∀ w2 : World, w2.heap = w.heap → (Builtin.firstCells i.size m x').run P w2 = .ok l'.toArray w2) ∧ VL F new l' := by
          rcases hnewp with h | ⟨l, h, hp⟩
          · rw [hnw] at h; cases h
          · rw [hnw] at h; cases h; exact hp
        dsimp only [Option.elim_some]
        cases hon : oneCells new with
        | false => exact .inl rfl
        | true =>
          dsimp only [cond_true]
          cases hfit : Nat.ble (sLen + m) sCap with
          | true =>
            dsimp only [cond_true]
            have hfit : sLen + m ≤ sCap := Nat.le_of_ble_eq_true hfit
            unfold appIn
            split
            · cases hm0 : Nat.beq m 0 with
              | false => exact .inl rfl
              | true =>
                refine .inr ⟨_, _, _, rfl, fun F a w K Q ht hr hk => ?_⟩
                have h1 := evX ht hs hms
                rw [hsv] at h1
                have he := h1.sliceN_inv
                obtain ⟨new', hnr, hnv⟩ := hnewr F P (a.eval x) w (evX ht hx hmx) hr.hb
                obtain ⟨at_, ar, q0, q1, q2, q3, hex⟩ := app_real (P := P) ho hc ht' ha a w
                rw [he] at q2
                have hrun := run_append_in q0 q1 hu huu hud hi q2 q3 (lenA_run hlx (evX ht hx hmx) w) (hnr w rfl) hfit o.type
                refine wp_of_value (v := .slice none (sLen + m) sCap) (w' := w) ?_ (hk _ F w (.sliceN _ _) (Stp.refl hr))
                rw [hex, hrun]; rfl
            · rename_i b o'
              rw [forceN_eq]
              rcases put_sound (F := fun _ => none) (H := H) (nx := nx) (b := b) (o' := o' + sLen * i.size) (vs := new) none z (fun H' => k (.slice (some ⟨b, o', none⟩) (sLen + m) sCap) H' nx) with h | ⟨H', h, hp⟩
              · exact .inl h
              · refine .inr ⟨_, H', nx, h, fun F a w K Q ht hr hk => ?_⟩
                have h1 := evX ht hs hms
                rw [hsv] at h1
                obtain ⟨_, tt, c', hF, he, hcc⟩ := h1.slice_inv
                have hcc' : sCap ≤ c' := by rcases hcc with h | ⟨_, h, _⟩ <;> omega
                obtain ⟨new', hnr, hnv⟩ := hnewr F P (a.eval x) w (evX ht hx hmx) hr.hb
                obtain ⟨at_, ar, q0, q1, q2, q3, hex⟩ := app_real (P := P) ho hc ht' ha a w
                rw [he] at q2
                have hrun := run_append_in q0 q1 hu huu hud hi q2 q3 (lenA_run hlx (evX ht hx hmx) w) (hnr w rfl) (by omega) o.type
                obtain ⟨w', hst, hstp⟩ := hp F P w tt new' hr hF hnv (oneCell_of hnv hon)
                refine wp_of_value (v := .slice (some ⟨tt.blk, tt.base + o', none⟩) (sLen + m) c') (w' := w') ?_ (hk _ F w' (.slice hF hcc) hstp)
                rw [hex, hrun]
                dsimp only
                rw [add_addr, Nat.add_assoc, hst]
                rfl
            · exact .inl rfl
          | false =>
            dsimp only [cond_false]
            have hnofit : ¬ sLen + m ≤ sCap := fun h => by rw [Nat.ble_eq_true_of_le h] at hfit; cases hfit
            rw [first_nat]
            have holdp := first_sound (H := H) (nx := nx) (size := i.size) (m := sLen) (x := ev T S1) (none : Option (List Value)) some
            cases hol : firstK H i.size sLen (ev T S1) none some with
            | none => exact .inl rfl
            | some old =>
              have holdr : ∀ (F : FM) (P : Program) (x' : Value) (w : World), VR F (ev T S1) x' → HB F H nx w → ∃ l', (∀ w2 : World, w2.heap = w.heap → (Builtin.firstCells i.size sLen x').run P w2 = .ok l'.toArray w2) ∧ VL F old l' := by
                rcases holdp with h | ⟨l, h, hp⟩
                · rw [hol] at h; cases h
                · rw [hol] at h; cases h; exact hp
              dsimp only [Option.elim_some]
              rw [spine_eq]
              cases hcl : Nat.beq (old ++ new).length ((sLen + m) * i.size) with
              | false => exact .inl rfl
              | true =>
                dsimp only [cond_true]
                have hcl := Nat.eq_of_beq_eq_true hcl
                -- the world grows
                have grow : ∀ (F : FM) (a : Act) (w : World) (K : Act → World → Prop) (Q : Exit → Act → World → Prop) (H2 : Heap), OR n o F T a → HR F H nx w → Stp F H nx w F H2 nx w →
                    (∀ base' c', a.eval s = .slice base' sLen c' → ∃ c'', a.eval s = .slice base' sLen c'' ∧ c'' < sLen + m) →
                    (∀ v' F' w', VR F' (.slice (some ⟨nx, 0, none⟩) (sLen + m) (sLen + m)) v' → Stp F H nx w F' (Go.Clo.hs H2 nx (some (.cells (old ++ new) i.size))) (nx + 1) w' → K (a.put o.dst v') w') → o.wp P a w K Q := by
                  intro F a w K Q H2 ht hr hst2 hsm hk
                  have h0 := evX ht hs hms
                  have h1 := h0
                  rw [hsv] at h1
                  have hsl : ∃ base' c', a.eval s = .slice base' sLen c' := by
                    generalize a.eval s = qq at h1
                    cases h1 <;> exact ⟨_, _, rfl⟩
                  obtain ⟨base', c0, he0⟩ := hsl
                  obtain ⟨c', he, hlt⟩ := hsm base' c0 he0
                  -- the readings do not hang on the draws
                  obtain ⟨old', hor, hov⟩ := holdr F P (a.eval s) w h0 hr.hb
                  obtain ⟨new', hnr, hnv⟩ := hnewr F P (a.eval x) w (evX ht hx hmx) hr.hb
                  have ho2 : ∀ q, (Builtin.firstCells i.size sLen (.slice base' sLen c')).run P { w with drawn := q } = .ok old'.toArray { w with drawn := q } := by
                    intro q
                    rw [← he]
                    exact hor _ rfl
                  have hn2 : ∀ q, (Builtin.firstCells i.size m (a.eval x)).run P { w with drawn := q } = .ok new'.toArray { w with drawn := q } := fun q => hnr _ rfl
                  obtain ⟨at_, ar, q0, q1, q2, q3, hex⟩ := app_real (P := P) ho hc ht' ha a w
                  rw [he] at q2
                  obtain ⟨newCap, hcap, hrun⟩ := run_append_out q0 q1 hu huu hud hi hiz q2 q3 (lenA_run hlx (evX ht hx hmx) w) hlt hb1 hb2 ho2 hn2 o.type
                  obtain ⟨F', hstp, hvr⟩ := grow_step (e := e) (zv := zv) hst2.hr hov hnv (w.drawn + 1) hcl hsz hzs hcap
                  exact wp_of_value (by rw [hex, hrun]; rfl) (hk _ F' _ hvr (hst2.trans hstp))
                unfold appOut
                split
                · unfold appNew
                  rw [forceN_eq, forceN_eq, hsK_eq]
                  refine .inr ⟨_, _, _, rfl, fun F a w K Q ht hr hk => grow F a w K Q H ht hr (Stp.refl hr) ?_ hk⟩
                  intro base' c' he
                  have h1 := evX ht hs hms
                  rw [hsv] at h1
                  have he2 := h1.sliceN_inv
                  rw [he2] at he; cases he
                  exact ⟨_, he2, by omega⟩
                · rename_i b o'
                  rw [getB_eq]
                  cases hg : getH H b with
                  | none => exact .inl rfl
                  | some blk =>
                    dsimp only [Option.elim_some]
                    split
                    · rename_i hls
                      unfold appNew
                      rw [forceN_eq, forceN_eq, hsK_eq]
                      refine .inr ⟨_, _, _, rfl, fun F a w K Q ht hr hk => grow F a w K Q H ht hr (Stp.refl hr) ?_ hk⟩
                      intro base' c' he
                      have h1 := evX ht hs hms
                      rw [hsv] at h1
                      obtain ⟨_, tt, c2, hF, he2, hcc⟩ := h1.slice_inv
                      rw [he2] at he; cases he
                      · obtain ⟨_, hl2⟩ := loose_inv (hr.hb.get hF hg) hls hcc
                        have : c' = sCap := by
                          rcases Nat.decEq c' sCap with h | h
                          · have := (hl2 h).1; cases this
                          · exact h
                        exact ⟨_, he2, by omega⟩
                    · rename_i hls
                      rw [hsK_eq]
                      unfold appNew
                      rw [forceN_eq, forceN_eq, hsK_eq]
                      refine .inr ⟨_, _, _, rfl, fun F a w K Q ht hr hk => ?_⟩
                      have h1 := evX ht hs hms
                      rw [hsv] at h1
                      obtain ⟨_, tt, c2, hF, he2, hcc⟩ := h1.slice_inv
                      by_cases hc2 : c2 < sLen + m
                      · refine grow F a w K Q _ ht hr (Stp.kill hr (hr.hb.lt hF)) ?_ hk
                        intro base' c' he
                        rw [he2] at he; cases he
                        exact ⟨_, he2, hc2⟩
                      · cases blk with
                        | map es q => simp [looseA] at hls
                        | rom cc =>
                          obtain ⟨_, hl2⟩ := loose_inv (hr.hb.get hF hg) hls hcc
                          simp [looseA] at hls
                        | cells cc sl =>
                          obtain ⟨_, hl2⟩ := loose_inv (hr.hb.get hF hg) hls hcc
                          obtain ⟨_, g2, g3, g4, g5⟩ := hl2 (by omega)
                          have hsl : sl = i.size := by
                            obtain ⟨_, _, _, _, _, h4, _⟩ := hr.hb.get hF hg
                            omega
                          subst hsl
                          rw [hsv] at hol
                          obtain ⟨_, blk2, cc2, hg2, hrow2, htk⟩ := first_slice (z := none) hol
                          rw [hg] at hg2; cases hg2; cases hrow2
                          obtain ⟨new', hnr, hnv⟩ := hnewr F P (a.eval x) w (evX ht hx hmx) hr.hb
                          obtain ⟨F', w', hst, hstp, hvr⟩ := inplace_step P hr hg hF htk hnv (oneCell_of hnv hon) hcl hsz (by omega) g5
                          obtain ⟨at_, ar, q0, q1, q2, q3, hex⟩ := app_real (P := P) ho hc ht' ha a w
                          rw [he2] at q2
                          have hrun := run_append_in q0 q1 hu huu hud hi q2 q3 (lenA_run hlx (evX ht hx hmx) w) (hnr w rfl) (by omega) o.type
                          refine wp_of_value (v := .slice (some ⟨tt.blk, tt.base + o', none⟩) (sLen + m) c2) (w' := w') ?_ (hk _ F' w' hvr hstp)
                          rw [hex, hrun]
                          dsimp only
                          rw [add_addr, hst]
                          rfl
                    · exact .inl rfl
                · exact .inl rfl
  · exact .inl rfl
end
end Go.Clo
