/-
  The closed executor: one operation; a region in its order.
-/
import Derived.Test.YtdecggbglnbhlaaGreatDoorCloF
set_option linter.unusedSimpArgs false
set_option linter.unusedVariables false
set_option linter.unusedSectionVars false
namespace Go.Clo

theorem put_defers (a : Act) (dst : Option Tmp) (v : Value) : (a.put dst v).defers = a.defers := by cases dst <;> rfl
theorem compD_eq {n : Nat} {t : Option Tmp} {r : Option Nat} (h : compD n t = some r) : r = t ∧ ∀ q, t = some q → q < n := by
  cases t with
  | none => simp [compD] at h; exact ⟨h.symm, fun q hq => by cases hq⟩
  | some t =>
    simp only [compD] at h
    cases hb : Nat.blt t n with
    | false => rw [hb] at h; cases h
    | true => rw [hb] at h; cases h; exact ⟨rfl, fun q hq => by cases hq; simpa using hb⟩
theorem compS_inv {P : Program} {n : Nat} {ops : List Oper} {o : Oper} {s : S} (h : compS P n ops o = some s) : compG n ops o.guard = some s.guard ∧ s.dst = o.dst ∧ (∀ q, o.dst = some q → q < n) ∧ compI P n o = some s.i := by
  unfold compS at h
  split at h
  · rename_i g d i h1 h2 h3
    cases h
    obtain ⟨e1, e2⟩ := compD_eq h2
    exact ⟨h1, e1, e2, h3⟩
  · cases h

theorem TR.gr {d n : Nat} {F : FM} {T : Tree Value} {a : Act} (ht : TR d F T n a.tmps) {ops : List Oper} {o : Oper} {g : Option (Nat × Bool)} (hg : compG n ops o.guard = some g) : GR g F T a := by
  intro t want e
  subst e
  have htn : t < n := by
    cases hgd : o.guard with
    | none => rw [hgd] at hg; simp [compG] at hg
    | some jw =>
      obtain ⟨j, w⟩ := jw
      rw [hgd] at hg
      simp only [compG] at hg
      split at hg
      · split at hg
        · rename_i t' _
          cases hb : Nat.blt t' n with
          | false => rw [hb] at hg; cases hg
          | true => rw [hb] at hg; cases hg; simpa using hb
        · cases hg
      · cases hg
  exact ⟨by rw [ht.size]; exact htn, ht.get t htn⟩
/-- What one operation comes to. -/
def StepOK (P : Program) (d n : Nat) (ops : List Oper) (o : Oper) (T : Tree Value) (H : Heap) (nx : Nat) (T' : Tree Value) (H' : Heap) (nx' : Nat) : Prop :=
  ∀ (F : FM) (a : Act) (w : World) (K : Act → World → Prop) (Q : Exit → Act → World → Prop), TR d F T n a.tmps → HR F H nx w →
    (∀ F' a' w', TR d F' T' n a'.tmps → Stp F H nx w F' H' nx' w' → a'.defers = a.defers → K a' w') →
    if Region.wanted o (yielded ops.toArray a.tmps) then o.wp P a w K Q ∨ (o.asks P a w ∧ LetsOut Q) else K (a.put o.dst undef) w

section
variable {β : Type} {P : Program} {d n : Nat} {ops : List Oper}

theorem step_sound {o : Oper} {s : S} (hs : compS P n ops o = some s) (hn : n ≤ 2 ^ d) {call : CallT β} (hcall : CallOK P call) (T : Tree Value) (H : Heap) (nx : Nat) (z : β) (k : Tree Value → Heap → Nat → β) :
    stepS P d call s T H nx z k = z ∨ ∃ T' H' nx', stepS P d call s T H nx z k = k T' H' nx' ∧ (WF d T → WF d T' ∧ Agr n s.dst.toList T T') ∧ StepOK P d n ops o T H nx T' H' nx' := by
  obtain ⟨hg, hd, hdn, hi⟩ := compS_inv hs
  obtain ⟨g, dst, i⟩ := s
  dsimp only at hg hd hi
  subst hd
  show wantK g T z (runI i P d o.dst call T H nx z k) (putK d o.dst undef T fun T => k T H nx) = z ∨ ∃ T' H' nx', wantK g T z (runI i P d o.dst call T H nx z k) (putK d o.dst undef T fun T => k T H nx) = k T' H' nx' ∧ _
  rcases wantK_sound hg T z (runI i P d o.dst call T H nx z k) (putK d o.dst undef T fun T => k T H nx) with e | ⟨e, hw⟩ | ⟨e, hw⟩
  · exact .inl e
  · rw [e]
    cases i with
    | p i =>
      show runP i P d o.dst call T H nx z k = z ∨ ∃ T' H' nx', runP i P d o.dst call T H nx z k = k T' H' nx' ∧ _
      unfold runP
      rcases soundP (P := P) (d := d) (T := T) hi z (fun v => putK d o.dst v T fun T => k T H nx) with h | ⟨v, h, hp⟩
      · exact .inl h
      · obtain ⟨T', ht', hwf, hT⟩ := putK_sound (d := d) (dst := o.dst) (v := v) (T := T) (fun T => k T H nx)
        refine .inr ⟨T', H, nx, by rw [h, ht'], fun h => ⟨(hwf h).1, (hwf h).2 n hn hdn⟩, fun F a w K Q ht hr hk => ?_⟩
        rw [if_pos (hw F a (ht.gr hg))]
        obtain ⟨v', hrun, hv⟩ := hp F a w (ht.or o)
        exact .inl (wp_of_value hrun (hk F _ w (hT F n a v' hdn ht hv) (Stp.refl hr) (put_defers a _ _)))
    | r i =>
      show runR i P d o.dst call T H nx z k = z ∨ ∃ T' H' nx', runR i P d o.dst call T H nx z k = k T' H' nx' ∧ _
      unfold runR
      rcases soundR (P := P) (d := d) (T := T) (H := H) (nx := nx) hi z (fun v => putK d o.dst v T fun T => k T H nx) with h | ⟨v, h, hp⟩
      · exact .inl h
      · obtain ⟨T', ht', hwf, hT⟩ := putK_sound (d := d) (dst := o.dst) (v := v) (T := T) (fun T => k T H nx)
        refine .inr ⟨T', H, nx, by rw [h, ht'], fun h => ⟨(hwf h).1, (hwf h).2 n hn hdn⟩, fun F a w K Q ht hr hk => ?_⟩
        rw [if_pos (hw F a (ht.gr hg))]
        obtain ⟨v', hrun, hv⟩ := hp F a w (ht.or o) hr.hb
        exact .inl (wp_of_value hrun (hk F _ w (hT F n a v' hdn ht hv) (Stp.refl hr) (put_defers a _ _)))
    | a i =>
      show runAl i P d o.dst call T H nx z k = z ∨ ∃ T' H' nx', runAl i P d o.dst call T H nx z k = k T' H' nx' ∧ _
      unfold runAl
      · rcases soundA (P := P) (d := d) (T := T) hi z (newK d o.dst T H nx k) with h | ⟨b, y, h, hp⟩
        · exact .inl h
        · unfold newK at h
          rw [hsK_eq, forceN_eq, force1_eq] at h
          obtain ⟨T', ht', hwf, hT⟩ := putK_sound (d := d) (dst := o.dst) (v := y.val nx) (T := T) (fun T => k T (Go.Clo.hs H nx (some b)) (nx + 1))
          rw [ht'] at h
          refine .inr ⟨T', _, nx + 1, h, fun h => ⟨(hwf h).1, (hwf h).2 n hn hdn⟩, fun F a w K Q ht hr hk => ?_⟩
          rw [if_pos (hw F a (ht.gr hg))]
          obtain ⟨obj, hrun, hnew⟩ := hp F a w (ht.or o)
          obtain ⟨t, e1, e2, hst⟩ := Stp.new hr hnew
          have hv : VR (upd F nx t) (y.val nx) (y.real w.heap.size) := by rw [← e1]; exact Yld.vr (upd_same F nx t) e2 y
          exact .inl (wp_of_value hrun (hk _ _ _ (hT _ n a _ hdn (ht.mono (hst.fle hr)) hv) hst (put_defers a _ _)))
    | e i =>
      show runE i P d o.dst call T H nx z k = z ∨ ∃ T' H' nx', runE i P d o.dst call T H nx z k = k T' H' nx' ∧ _
      unfold runE
      rcases soundE (P := P) (d := d) (T := T) (H := H) (nx := nx) hi hcall z (fun v H nx => putK d o.dst v T fun T => k T H nx) with h | ⟨v, H', nx', h, hp⟩
      · exact .inl h
      · obtain ⟨T', ht', hwf, hT⟩ := putK_sound (d := d) (dst := o.dst) (v := v) (T := T) (fun T => k T H' nx')
        refine .inr ⟨T', H', nx', by rw [h, ht'], fun h => ⟨(hwf h).1, (hwf h).2 n hn hdn⟩, fun F a w K Q ht hr hk => ?_⟩
        rw [if_pos (hw F a (ht.gr hg))]
        refine .inl (hp F a w K Q (ht.or o) hr fun v' F' w' hv hst => ?_)
        exact hk F' _ w' (hT F' n a v' hdn (ht.mono (hst.fle hr)) hv) hst (put_defers a _ _)
  · rw [e]
    obtain ⟨T', ht', hwf, hT⟩ := putK_sound (d := d) (dst := o.dst) (v := undef) (T := T) (fun T => k T H nx)
    refine .inr ⟨T', H, nx, ht', fun h => ⟨(hwf h).1, (hwf h).2 n hn hdn⟩, fun F a w K Q ht hr hk => ?_⟩
    rw [if_neg (by simp [hw F a (ht.gr hg)])]
    exact hk F _ w (hT F n a undef hdn ht (VR.undef F)) (Stp.refl hr) (put_defers a _ _)

def dsts : List S → List Nat
  | [] => []
  | s :: l => s.dst.toList ++ dsts l
theorem ops_seg (hn : n ≤ 2 ^ d) {call : CallT β} (hcall : CallOK P call) (z : β) (k : Tree Value → Heap → Nat → β) : ∀ (suf : List Oper) (l : List S) (i : Nat), compSs P n ops suf = some l → (∀ j, j < suf.length → suf[j]? = ops[i + j]?) → ∀ (T : Tree Value) (H : Heap) (nx : Nat),
    opsK P d call z k l T H nx = z ∨ ∃ T' H' nx', opsK P d call z k l T H nx = k T' H' nx' ∧ (WF d T → WF d T' ∧ Agr n (dsts l) T T') ∧
      ∀ (F : FM) (a : Act) (w : World) (Q : Exit → Act → World → Prop) (rest : List Nat), TR d F T n a.tmps → HR F H nx w →
        (∀ F' a' w', TR d F' T' n a'.tmps → Stp F H nx w F' H' nx' w' → a'.defers = a.defers → wpOps P ops.toArray Q rest a' w') → wpOps P ops.toArray Q (List.range' i suf.length ++ rest) a w
  | [], l, i, h, _, T, H, nx => by
    simp [compSs] at h; subst h
    exact .inr ⟨T, H, nx, rfl, fun h => ⟨h, Agr.refl _ _ _⟩, fun F a w Q rest ht hr hk => by simpa using hk F a w ht (Stp.refl hr) rfl⟩
  | o :: suf, l, i, h, hsuf, T, H, nx => by
    simp only [compSs] at h
    cases hs : compS P n ops o with
    | none => simp [hs] at h
    | some s => cases hl : compSs P n ops suf with
      | none => simp [hs, hl] at h
      | some l' =>
        simp [hs, hl] at h; subst h
        show stepS P d call s T H nx z (opsK P d call z k l') = z ∨ ∃ T' H' nx', stepS P d call s T H nx z (opsK P d call z k l') = k T' H' nx' ∧ _
        rcases step_sound (d := d) hs hn hcall T H nx z (opsK P d call z k l') with h1 | ⟨T1, H1, nx1, h1, hw1, hok⟩
        · exact .inl h1
        · rw [h1]
          rcases ops_seg hn hcall z k suf l' (i + 1) hl (fun j hj => by have := hsuf (j + 1) (by simp; omega); simpa [Nat.add_assoc, Nat.add_comm 1 j] using this) T1 H1 nx1 with h2 | ⟨T2, H2, nx2, h2, hw2, hp⟩
          · exact .inl h2
          · refine .inr ⟨T2, H2, nx2, h2, fun h => ⟨(hw2 (hw1 h).1).1, (hw1 h).2.trans (hw2 (hw1 h).1).2⟩, fun F a w Q rest ht hr hk => ?_⟩
            simp only [List.length_cons, List.range'_succ, List.cons_append]
            rw [wpOps_cons]
            unfold wpOp
            have ho : ops.toArray[i]? = some o := by have := hsuf 0 (by simp); simpa using this.symm
            simp only [ho]
            refine hok F a w _ Q ht hr fun F' a' w' ht' hst hdf => ?_
            exact hp F' a' w' Q rest ht' hst.hr fun F2 a2 w2 ht2 hst2 hdf2 => hk F2 a2 w2 ht2 (hst.trans hst2) (hdf2.trans hdf)
theorem ops_sound (hn : n ≤ 2 ^ d) {call : CallT β} (hcall : CallOK P call) (z : β) (k : Tree Value → Heap → Nat → β) (suf : List Oper) (l : List S) (i : Nat) (h : compSs P n ops suf = some l) (hsuf : ∀ j, suf[j]? = ops[i + j]?) (T : Tree Value) (H : Heap) (nx : Nat) :
    opsK P d call z k l T H nx = z ∨ ∃ T' H' nx', opsK P d call z k l T H nx = k T' H' nx' ∧ (WF d T → WF d T' ∧ Agr n (dsts l) T T') ∧
      ∀ (F : FM) (a : Act) (w : World) (Q : Exit → Act → World → Prop), TR d F T n a.tmps → HR F H nx w →
        (∀ F' a' w', TR d F' T' n a'.tmps → Stp F H nx w F' H' nx' w' → a'.defers = a.defers → Q .normal a' w') → wpOps P ops.toArray Q (List.range' i suf.length) a w := by
  rcases ops_seg hn hcall z k suf l i h (fun j _ => hsuf j) T H nx with h1 | ⟨T', H', nx', h1, h2, h3⟩
  · exact .inl h1
  · exact .inr ⟨T', H', nx', h1, h2, fun F a w Q ht hr hk => by simpa using h3 F a w Q [] ht hr hk⟩
end
end Go.Clo
