/-
  The closed executor: code, calls, and what a run says.
-/
import Derived.Test.YtdecggbglnbhlaaGreatDoorCloN
set_option linter.unusedSimpArgs false
set_option linter.unusedVariables false
set_option linter.unusedSectionVars false
namespace Go.Clo

inductive Ox where
  | n
  | x (id : Nat)
  | r
def Ox.exit : Ox → Exit
  | .n => .normal
  | .x id => .exit id
  | .r => .ret
def Ox.go {β : Type} (k : K β) (x : Nat → K β) (r : K β) : Ox → K β
  | .n => k
  | .x id => x id
  | .r => r

/-- What a piece of code comes to. -/
def CodeOK (P : Program) (d n : Nat) (c : Code) (T : Tree Value) (H : Heap) (nx : Nat) (o : Ox) (T' : Tree Value) (H' : Heap) (nx' : Nat) : Prop :=
  ∀ (F : FM) (a : Act) (w : World) (Q : Exit → Act → World → Prop), TR d F T n a.tmps → HR F H nx w →
    (∀ F' a' w', TR d F' T' n a'.tmps → Stp F H nx w F' H' nx' w' → a'.defers = a.defers → Q o.exit a' w') → c.wp P Q a w

noncomputable def loopN {β : Type} (z : β) (c : Tree Value → Heap → Nat → K β → β) (m : Nat) : K β :=
  @Nat.rec (fun _ => K β) (fun _ _ _ => z) (fun _ ih T H nx => c T H nx ih) m
theorem loopN_zero {β : Type} (z : β) (c : Tree Value → Heap → Nat → K β → β) (T : Tree Value) (H : Heap) (nx : Nat) : loopN z c 0 T H nx = z := rfl
theorem loopN_succ {β : Type} (z : β) (c : Tree Value → Heap → Nat → K β → β) (m : Nat) (T : Tree Value) (H : Heap) (nx : Nat) : loopN z c (m + 1) T H nx = c T H nx (loopN z c m) := rfl
theorem fixN_eq {β : Type} (m : Nat) (z : β) (f : K β → K β) : fixN m z f = loopN z (fun T H nx k => f k T H nx) m := rfl
/-- The loop comes to some number of rounds. -/
def FixOK {β : Type} (fx : FixT β) : Prop := ∀ (z : β) (f : K β → K β) (T : Tree Value) (H : Heap) (nx : Nat), ∃ m, fx z f T H nx = loopN z (fun T H nx k => f k T H nx) m T H nx
theorem fixN_ok {β : Type} (m : Nat) : FixOK (β := β) (fixN m) := fun z f T H nx => ⟨m, by rw [fixN_eq]⟩
theorem exec_cLoop {β : Type} (c : C) (P : Program) (d : Nat) (call : CallT β) (chk : ChkT β) (fx : FixT β) (z : β) (T : Tree Value) (H : Heap) (nx : Nat) (k : K β) (x : Nat → K β) (r : K β) :
    execC (.loop c) P d call chk fx z T H nx k x r = fx z (fun ih T H nx => execC c P d call chk fx z T H nx ih x r) T H nx := rfl

section
variable {β : Type} {P : Program} {d n : Nat}

theorem exec_sound (hm : P.follows .mixedOrders = true) (hn : n ≤ 2 ^ d) {call : CallT β} (hcall : CallOK P call) {chk : ChkT β} (hchk : ChkOK P chk) {fx : FixT β} (hfx : FixOK fx) (z : β) : ∀ (code : Code) (c : C), compC P n code = some c → ∀ (T : Tree Value) (H : Heap) (nx : Nat) (k : K β) (x : Nat → K β) (r : K β), WF d T →
    execC c P d call chk fx z T H nx k x r = z ∨ ∃ o T' H' nx', execC c P d call chk fx z T H nx k x r = o.go k x r T' H' nx' ∧ WF d T' ∧ CodeOK P d n code T H nx o T' H' nx' := by
  intro code
  induction code with
  | skip =>
    intro c hc T H nx k x r hw
    simp [compC] at hc; subst hc
    exact .inr ⟨.n, T, H, nx, rfl, hw, fun F a w Q ht hr hk => wp_skip (hk F a w ht (Stp.refl hr) rfl)⟩
  | label l =>
    intro c hc T H nx k x r hw
    simp [compC] at hc; subst hc
    exact .inr ⟨.n, T, H, nx, rfl, hw, fun F a w Q ht hr hk => wp_label (hk F a w ht (Stp.refl hr) rfl)⟩
  | exit id =>
    intro c hc T H nx k x r hw
    simp [compC] at hc; subst hc
    exact .inr ⟨.x id, T, H, nx, rfl, hw, fun F a w Q ht hr hk => wp_exit (hk F a w ht (Stp.refl hr) rfl)⟩
  | ret =>
    intro c hc T H nx k x r hw
    simp [compC] at hc; subst hc
    exact .inr ⟨.r, T, H, nx, rfl, hw, fun F a w Q ht hr hk => wp_ret (hk F a w ht (Stp.refl hr) rfl)⟩
  | goto l => intro c hc; simp [compC] at hc
  | refuse why => intro c hc; simp [compC] at hc
  | rangeFunc f ps as b _ _ => intro c hc; simp [compC] at hc
  | region id ops draw =>
    intro c hc T H nx k x r hw
    simp only [compC] at hc
    cases hl : compSs P n ops.toList ops.toList with
    | none => simp [hl] at hc
    | some l =>
      simp only [hl] at hc
      cases draw with
      | false =>
        simp at hc; subst hc
        show opsK P d call z k l T H nx = z ∨ ∃ o T' H' nx', opsK P d call z k l T H nx = _ ∧ _
        rcases ops_sound (d := d) hn hcall z k ops.toList l 0 hl (by simp) T H nx with h | ⟨T', H', nx', h, hw', hp⟩
        · exact .inl h
        · refine .inr ⟨.n, T', H', nx', h, (hw' hw).1, fun F a w Q ht hr hk => wp_region ?_⟩
          have := hp F a w Q ht hr hk
          simpa [List.range_eq_range'] using this
      | true =>
        cases hs : slotsOk (masks ops.toList) ops.toList ops.toList 0 with
        | false => simp [hs] at hc
        | true =>
          simp [hs] at hc; subst hc
          show drawC P d call chk z (masks ops.toList) l T H nx k = z ∨ ∃ o T' H' nx', drawC P d call chk z (masks ops.toList) l T H nx k = _ ∧ _
          rcases draw_sound hm hl hs hn hcall hchk T H nx z k hw with h | ⟨T', H', nx', h, hw', hp⟩
          · exact .inl h
          · refine .inr ⟨.n, T', H', nx', h, hw'.1, fun F a w Q ht hr hk => ?_⟩
            have := hp id F a w Q ht hr hk
            simpa using this
  | seq a b iha ihb =>
    intro c hc T H nx k x r hw
    simp only [compC] at hc
    cases ha : compC P n a with
    | none => simp [ha] at hc
    | some ca => cases hb : compC P n b with
      | none => simp [ha, hb] at hc
      | some cb =>
        simp [ha, hb] at hc; subst hc
        show execC ca P d call chk fx z T H nx (fun T H nx => execC cb P d call chk fx z T H nx k x r) x r = z ∨ ∃ o T' H' nx', execC ca P d call chk fx z T H nx (fun T H nx => execC cb P d call chk fx z T H nx k x r) x r = _ ∧ _
        rcases iha ca ha T H nx (fun T H nx => execC cb P d call chk fx z T H nx k x r) x r hw with h | ⟨o, T1, H1, nx1, h, hw1, hok⟩
        · exact .inl h
        · cases o with
          | n =>
            rw [h]
            rcases ihb cb hb T1 H1 nx1 k x r hw1 with h2 | ⟨o2, T2, H2, nx2, h2, hw2, hok2⟩
            · exact .inl h2
            · refine .inr ⟨o2, T2, H2, nx2, h2, hw2, fun F ac w Q ht hr hk => wp_seq (hok F ac w _ ht hr fun F' a' w' ht' hst hdf => ?_)⟩
              exact hok2 F' a' w' Q ht' hst.hr fun F2 a2 w2 ht2 hst2 hdf2 => hk F2 a2 w2 ht2 (hst.trans hst2) (hdf2.trans hdf)
          | x id => exact .inr ⟨.x id, T1, H1, nx1, h, hw1, fun F ac w Q ht hr hk => wp_seq (hok F ac w _ ht hr fun F' a' w' ht' hst hdf => hk F' a' w' ht' hst hdf)⟩
          | r => exact .inr ⟨.r, T1, H1, nx1, h, hw1, fun F ac w Q ht hr hk => wp_seq (hok F ac w _ ht hr fun F' a' w' ht' hst hdf => hk F' a' w' ht' hst hdf)⟩
  | cond v a b iha ihb =>
    intro c hc T H nx k x r hw
    simp only [compC] at hc
    cases hv : compX n v with
    | none => simp [hv] at hc
    | some cv => cases ha : compC P n a with
      | none => simp [hv, ha] at hc
      | some ca => cases hb : compC P n b with
        | none => simp [hv, ha, hb] at hc
        | some cb =>
          simp [hv, ha, hb] at hc; subst hc
          show (evK T cv fun v => match v with
            | .bool b => ifK b (execC ca P d call chk fx z T H nx k x r) (execC cb P d call chk fx z T H nx k x r)
            | _ => z) = z ∨ ∃ o T' H' nx', (evK T cv fun v => match v with
            | .bool b => ifK b (execC ca P d call chk fx z T H nx k x r) (execC cb P d call chk fx z T H nx k x r)
            | _ => z) = _ ∧ _
          rw [evK_eq]
          split
          · rename_i t hvt
            rw [ifK_eq]
            have hev : ∀ (F : FM) (ac : Act), TR d F T n ac.tmps → ac.eval v = .bool t := fun F ac ht => by
              have := ht.evX hv
              rw [hvt] at this
              exact this.bool_inv
            cases t with
            | true =>
              rcases iha ca ha T H nx k x r hw with h | ⟨o, T1, H1, nx1, h, hw1, hok⟩
              · exact .inl h
              · exact .inr ⟨o, T1, H1, nx1, h, hw1, fun F ac w Q ht hr hk => wp_cond_true (hev F ac ht) (hok F ac w Q ht hr hk)⟩
            | false =>
              rcases ihb cb hb T H nx k x r hw with h | ⟨o, T1, H1, nx1, h, hw1, hok⟩
              · exact .inl h
              · exact .inr ⟨o, T1, H1, nx1, h, hw1, fun F ac w Q ht hr hk => wp_cond_false (hev F ac ht) (hok F ac w Q ht hr hk)⟩
          · exact .inl rfl
  | block id a iha =>
    intro c hc T H nx k x r hw
    simp only [compC] at hc
    cases ha : compC P n a with
    | none => simp [ha] at hc
    | some ca =>
      simp [ha] at hc; subst hc
      show execC ca P d call chk fx z T H nx k (fun id' T H nx => cond (Nat.beq id' id) (k T H nx) (x id' T H nx)) r = z ∨ ∃ o T' H' nx', execC ca P d call chk fx z T H nx k (fun id' T H nx => cond (Nat.beq id' id) (k T H nx) (x id' T H nx)) r = _ ∧ _
      rcases iha ca ha T H nx k (fun id' T H nx => cond (Nat.beq id' id) (k T H nx) (x id' T H nx)) r hw with h | ⟨o, T1, H1, nx1, h, hw1, hok⟩
      · exact .inl h
      · cases o with
        | n => exact .inr ⟨.n, T1, H1, nx1, h, hw1, fun F ac w Q ht hr hk => wp_block (hok F ac w _ ht hr fun F' a' w' ht' hst hdf => hk F' a' w' ht' hst hdf)⟩
        | r => exact .inr ⟨.r, T1, H1, nx1, h, hw1, fun F ac w Q ht hr hk => wp_block (hok F ac w _ ht hr fun F' a' w' ht' hst hdf => hk F' a' w' ht' hst hdf)⟩
        | x id' =>
          cases hid : Nat.beq id' id with
          | true =>
            have e := Nat.eq_of_beq_eq_true hid
            subst e
            refine .inr ⟨.n, T1, H1, nx1, by rw [h]; simp [Ox.go], hw1, fun F ac w Q ht hr hk => wp_block (hok F ac w _ ht hr fun F' a' w' ht' hst hdf => ?_)⟩
            simp only [Ox.exit, Exit.inBlock, if_true]
            exact hk F' a' w' ht' hst hdf
          | false =>
            have e : id' ≠ id := fun e => by subst e; simp at hid
            refine .inr ⟨.x id', T1, H1, nx1, by rw [h]; simp [Ox.go, hid], hw1, fun F ac w Q ht hr hk => wp_block (hok F ac w _ ht hr fun F' a' w' ht' hst hdf => ?_)⟩
            simp only [Ox.exit, Exit.inBlock, e, if_false]
            exact hk F' a' w' ht' hst hdf
  | scope a iha =>
    intro c hc T H nx k x r hw
    simp only [compC] at hc
    rcases iha c hc T H nx k x r hw with h | ⟨o, T1, H1, nx1, h, hw1, hok⟩
    · exact .inl h
    · refine .inr ⟨o, T1, H1, nx1, h, hw1, fun F ac w Q ht hr hk => wp_scope_straight (hok F ac w _ ht hr fun F' a' w' ht' hst hdf => ?_)⟩
      cases o <;> exact hk F' a' w' ht' hst hdf
  | loop a iha =>
    intro c hc T H nx k x r hw
    simp only [compC] at hc
    cases ha : compC P n a with
    | none => simp [ha] at hc
    | some ca =>
      simp [ha] at hc; subst hc
      -- the rounds
      have rounds : ∀ (m : Nat) (T : Tree Value) (H : Heap) (nx : Nat), WF d T →
          loopN z (fun T H nx k => execC ca P d call chk fx z T H nx k x r) m T H nx = z ∨
          ∃ (o : Ox) (T' : Tree Value) (H' : Heap) (nx' : Nat), loopN z (fun T H nx k => execC ca P d call chk fx z T H nx k x r) m T H nx = o.go k x r T' H' nx' ∧ WF d T' ∧
            ∀ (F : FM) (ac : Act) (w : World) (Q : Exit → Act → World → Prop), TR d F T n ac.tmps → HR F H nx w →
              (∀ F' a' w', TR d F' T' n a'.tmps → Stp F H nx w F' H' nx' w' → a'.defers = ac.defers → Q o.exit a' w') → Code.rounds P a Q m ac w := by
        intro m
        induction m with
        | zero => intro T H nx _; exact .inl rfl
        | succ m ihm =>
          intro T H nx hw
          rcases iha ca ha T H nx (loopN z (fun T H nx k => execC ca P d call chk fx z T H nx k x r) m) x r hw with h | ⟨o, T1, H1, nx1, h, hw1, hok⟩
          · exact .inl h
          · cases o with
            | n =>
              rcases ihm T1 H1 nx1 hw1 with h2 | ⟨o2, T2, H2, nx2, h2, hw2, hok2⟩
              · exact .inl (h.trans h2)
              · refine .inr ⟨o2, T2, H2, nx2, h.trans h2, hw2, fun F ac w Q ht hr hk => ?_⟩
                rw [rounds_succ]
                refine hok F ac w _ ht hr fun F' a' w' ht' hst hdf => ?_
                exact hok2 F' a' w' Q ht' hst.hr fun F2 a2 w2 ht2 hst2 hdf2 => hk F2 a2 w2 ht2 (hst.trans hst2) (hdf2.trans hdf)
            | x id =>
              refine .inr ⟨.x id, T1, H1, nx1, h, hw1, fun F ac w Q ht hr hk => ?_⟩
              rw [rounds_succ]
              exact hok F ac w _ ht hr fun F' a' w' ht' hst hdf => hk F' a' w' ht' hst hdf
            | r =>
              refine .inr ⟨.r, T1, H1, nx1, h, hw1, fun F ac w Q ht hr hk => ?_⟩
              rw [rounds_succ]
              exact hok F ac w _ ht hr fun F' a' w' ht' hst hdf => hk F' a' w' ht' hst hdf
      rw [exec_cLoop]
      obtain ⟨m, hm'⟩ := hfx z (fun ih T H nx => execC ca P d call chk fx z T H nx ih x r) T H nx
      rw [hm']
      rcases rounds m T H nx hw with h | ⟨o, T1, H1, nx1, h, hw1, hok⟩
      · exact .inl h
      · exact .inr ⟨o, T1, H1, nx1, h, hw1, fun F ac w Q ht hr hk => wp_loop_rounds m (hok F ac w Q ht hr hk)⟩
end
end Go.Clo
