/-
  The closed executor: a function run in Prop. Remainders and conversions of integers that are not known are given; all else is run.
-/
import Derived.Test.YtaiefmkapnekiaaGreatDoorH8
import Derived.Laws.Entries
set_option linter.all false
namespace Go.Clo

abbrev PCall := CallT Prop
/-- What is given: the answers of these operations, named by the temporaries that they write. -/
structure Giv where
  rem : Value → Value → (Value → Prop) → Prop
  conv : IntKind → Value → (Value → Prop) → Prop
structure GivOK (G : Giv) : Prop where
  rem : ∀ a b g, G.rem a b g → ∃ v, g v ∧ ∀ k : Value → Prop, k v → binVK .rem a b False k
  conv : ∀ kd a g, G.conv kd a g → ∃ v, g v ∧ ∀ (T : Ev) (H : Heap) (x : X) (k : Value → Prop), ev T x = a → k v → rConvI kd x T H False k
noncomputable def givS (P : Program) (d : Nat) (call : PCall) (G : Giv) (s : S) (T : Ev) (H : Heap) (nx : Nat) (k : K Prop) : Prop :=
  match s with
  | ⟨none, some t, .p (.bin .rem x y)⟩ => G.rem (ev T x) (ev T y) fun v => tsK d T t v fun T => k T H nx
  | ⟨none, some t, .r (.convI kd x)⟩ => G.conv kd (ev T x) fun v => tsK d T t v fun T => k T H nx
  | s => (sC Prop P d s).run call T H nx False k
noncomputable def opsG (P : Program) (d : Nat) (call : PCall) (G : Giv) : List S → K Prop → K Prop
  | [], k => k
  | s :: l, k => fun T H nx => givS P d call G s T H nx (opsG P d call G l k)
/-- Does this code hold what is given? -/
def hasO : List Oper → Bool
  | [] => false
  | o :: l => cond (match o.op with
    | .binOp .rem _ _ _ _ => true
    | .convert _ _ _ => true
    | _ => false) true (hasO l)
def hasG : Code → Bool
  | .region _ ops _ => hasO ops.toList
  | .seq a b => cond (hasG a) true (hasG b)
  | .cond _ a b => cond (hasG a) true (hasG b)
  | .block _ a => hasG a
  | .loop a => hasG a
  | _ => false
noncomputable def leafP (P : Program) (d n : Nat) (call : PCall) (c : Code) (T : Ev) (H : Heap) (nx : Nat) (kn : K Prop) (kx : Nat → K Prop) (kr : K Prop) : Prop :=
  match compC P n c with
  | some c' => execC c' P d call (chkB P) (fixN 1000000) False T H nx kn kx kr
  | none => False
noncomputable def exP (P : Program) (d n : Nat) (call : PCall) (G : Giv) : Code → Ev → Heap → Nat → K Prop → (Nat → K Prop) → K Prop → Prop
  | .seq a b => fun T H nx kn kx kr => exP P d n call G a T H nx (fun T H nx => exP P d n call G b T H nx kn kx kr) kx kr
  | .block id a => fun T H nx kn kx kr => exP P d n call G a T H nx kn (fun id' T H nx => cond (Nat.beq id' id) (kn T H nx) (kx id' T H nx)) kr
  | .cond v a b => fun T H nx kn kx kr => match compX n v with
    | some x => condV (ev T x) False (exP P d n call G a T H nx kn kx kr) (exP P d n call G b T H nx kn kx kr)
    | none => False
  | .loop a => fun T H nx kn kx kr => cond (hasG a) (fixN 10000 False (fun ih T H nx => exP P d n call G a T H nx ih kx kr) T H nx) (leafP P d n call (.loop a) T H nx kn kx kr)
  | .region id ops false => fun T H nx kn kx kr => cond (hasO ops.toList) (match compSs P n ops.toList ops.toList with
    | some l => opsG P d call G l kn T H nx
    | none => False) (leafP P d n call (.region id ops false) T H nx kn kx kr)
  | c => fun T H nx kn kx kr => leafP P d n call c T H nx kn kx kr

section
variable {P : Program} {d n : Nat}
theorem givS_sound {ops : List Oper} (hn : n ≤ 2 ^ d) {call : PCall} (hcall : CallOK P call) {G : Giv} (hG : GivOK G) {o : Oper} {s : S} (hs : compS P n ops o = some s) {T : Ev} {H : Heap} {nx : Nat} {k : K Prop} (h : givS P d call G s T H nx k) :
    ∃ T' H' nx', k T' H' nx' ∧ (WF d T → WF d T') ∧ StepOK P d n ops o T H nx T' H' nx' := by
  have plain : (sC Prop P d s).run call T H nx False k → ∃ T' H' nx', k T' H' nx' ∧ (WF d T → WF d T') ∧ StepOK P d n ops o T H nx T' H' nx' := by
    intro h
    rw [sC_eq] at h
    rcases step_sound hs hn hcall T H nx False k with e | ⟨T', H', nx', e, hw, hok⟩
    · rw [e] at h; exact h.elim
    · rw [e] at h; exact ⟨T', H', nx', h, fun g => (hw g).1, hok⟩
  have given : ∀ {t : Nat} {v : Value}, k (ts d T t v) H nx → stepS P d call s T H nx False (fun T' H' nx' => T' = ts d T t v ∧ H' = H ∧ nx' = nx) → ∃ T' H' nx', k T' H' nx' ∧ (WF d T → WF d T') ∧ StepOK P d n ops o T H nx T' H' nx' := by
    intro t v hg hst
    rcases step_sound hs hn hcall T H nx False (fun T' H' nx' => T' = ts d T t v ∧ H' = H ∧ nx' = nx) with e | ⟨T', H', nx', e, hw, hok⟩
    · rw [e] at hst; exact hst.elim
    · rw [e] at hst
      obtain ⟨e1, e2, e3⟩ := hst
      subst e1; subst e2; subst e3
      exact ⟨_, _, _, hg, fun g => (hw g).1, hok⟩
  unfold givS at h
  split at h
  · rename_i t x y
    obtain ⟨v, hg, hk⟩ := hG.rem _ _ _ h
    rw [tsK_eq] at hg
    refine given hg ?_
    show evK T x (fun vx => evK T y fun vy => binVK .rem vx vy False _)
    rw [evK_eq, evK_eq]
    refine hk _ ?_
    show tsK d T t v _
    rw [tsK_eq]
    exact ⟨rfl, rfl, rfl⟩
  · rename_i t kd x
    obtain ⟨v, hg, hk⟩ := hG.conv _ _ _ h
    rw [tsK_eq] at hg
    refine given hg ?_
    show rConvI kd x T H False _
    refine hk T H x _ rfl ?_
    show tsK d T t v _
    rw [tsK_eq]
    exact ⟨rfl, rfl, rfl⟩
  · exact plain h
theorem opsG_seg {ops : List Oper} (hn : n ≤ 2 ^ d) {call : PCall} (hcall : CallOK P call) {G : Giv} (hG : GivOK G) {k : K Prop} : ∀ (suf : List Oper) (l : List S) (i : Nat), compSs P n ops suf = some l → (∀ j, suf[j]? = ops[i + j]?) → ∀ {T : Ev} {H : Heap} {nx : Nat}, opsG P d call G l k T H nx →
    ∃ T' H' nx', k T' H' nx' ∧ (WF d T → WF d T') ∧ ∀ (F : FM) (a : Act) (w : World) (Q : Exit → Act → World → Prop), TR d F T n a.tmps → HR F H nx w →
      (∀ F' a' w', TR d F' T' n a'.tmps → Stp F H nx w F' H' nx' w' → a'.defers = a.defers → Q .normal a' w') → wpOps P ops.toArray Q (List.range' i suf.length) a w
  | [], l, i, h, _, T, H, nx, hk => by
    simp [compSs] at h; subst h
    exact ⟨T, H, nx, hk, fun h => h, fun F a w Q ht hr hk => by simpa [wpOps] using hk F a w ht (Stp.refl hr) rfl⟩
  | o :: suf, l, i, h, hsuf, T, H, nx, hk => by
    simp only [compSs] at h
    cases hs : compS P n ops o with
    | none => simp [hs] at h
    | some s => cases hl : compSs P n ops suf with
      | none => simp [hs, hl] at h
      | some l' =>
        simp [hs, hl] at h; subst h
        obtain ⟨T1, H1, nx1, h1, hw1, hok⟩ := givS_sound hn hcall hG hs (k := opsG P d call G l' k) hk
        obtain ⟨T2, H2, nx2, h2, hw2, hp⟩ := opsG_seg hn hcall hG suf l' (i + 1) hl (fun j => by have := hsuf (j + 1); simpa [Nat.add_assoc, Nat.add_comm 1 j] using this) h1
        refine ⟨T2, H2, nx2, h2, fun h => hw2 (hw1 h), fun F a w Q ht hr hk => ?_⟩
        simp only [List.length_cons, List.range'_succ]
        rw [wpOps_cons]
        unfold wpOp
        have ho : ops.toArray[i]? = some o := by have := hsuf 0; simpa using this.symm
        simp only [ho]
        refine hok F a w _ Q ht hr fun F' a' w' ht' hst hdf => ?_
        exact hp F' a' w' Q ht' hst.hr fun F2 a2 w2 ht2 hst2 hdf2 => hk F2 a2 w2 ht2 (hst.trans hst2) (hdf2.trans hdf)
theorem leafP_sound (hm : P.follows .mixedOrders = true) (hn : n ≤ 2 ^ d) {call : PCall} (hcall : CallOK P call) {c : Code} {T : Ev} {H : Heap} {nx : Nat} {kn : K Prop} {kx : Nat → K Prop} {kr : K Prop} (h : leafP P d n call c T H nx kn kx kr) (hw : WF d T) :
    ∃ o T' H' nx', Ox.go kn kx kr o T' H' nx' ∧ WF d T' ∧ CodeOK P d n c T H nx o T' H' nx' := by
  unfold leafP at h
  split at h
  · rename_i c' hc
    rcases exec_sound (n := n) hm hn hcall (chkB_ok P) (fixN_ok 1000000) False c c' hc T H nx kn kx kr hw with e | ⟨o1, T1, H1, nx1, e, hw1, hok⟩
    · rw [e] at h; exact h.elim
    · rw [e] at h; exact ⟨o1, T1, H1, nx1, h, hw1, hok⟩
  · exact h.elim
theorem exP_sound (hm : P.follows .mixedOrders = true) (hn : n ≤ 2 ^ d) {call : PCall} (hcall : CallOK P call) {G : Giv} (hG : GivOK G) : ∀ (c : Code) {T : Ev} {H : Heap} {nx : Nat} {kn : K Prop} {kx : Nat → K Prop} {kr : K Prop},
    exP P d n call G c T H nx kn kx kr → WF d T → ∃ o T' H' nx', Ox.go kn kx kr o T' H' nx' ∧ WF d T' ∧ CodeOK P d n c T H nx o T' H' nx' := by
  intro c
  induction c with
  | seq a b iha ihb =>
    intro T H nx kn kx kr h hw
    rw [exP] at h
    obtain ⟨o1, T1, H1, nx1, h1, w1, k1⟩ := iha h hw
    cases o1 with
    | n =>
      obtain ⟨o2, T2, H2, nx2, h2, w2, k2⟩ := ihb h1 w1
      exact ⟨o2, T2, H2, nx2, h2, w2, fun F ac w Q ht hr hk => wp_seq (k1 F ac w _ ht hr fun F' a' w' ht' hst hdf => k2 F' a' w' Q ht' hst.hr fun F2 a2 w2 ht2 hst2 hdf2 => hk F2 a2 w2 ht2 (hst.trans hst2) (hdf2.trans hdf))⟩
    | x id => exact ⟨.x id, T1, H1, nx1, h1, w1, fun F ac w Q ht hr hk => wp_seq (k1 F ac w _ ht hr fun F' a' w' ht' hst hdf => hk F' a' w' ht' hst hdf)⟩
    | r => exact ⟨.r, T1, H1, nx1, h1, w1, fun F ac w Q ht hr hk => wp_seq (k1 F ac w _ ht hr fun F' a' w' ht' hst hdf => hk F' a' w' ht' hst hdf)⟩
  | block id a iha =>
    intro T H nx kn kx kr h hw
    rw [exP] at h
    obtain ⟨o1, T1, H1, nx1, h1, w1, k1⟩ := iha h hw
    cases o1 with
    | n => exact ⟨.n, T1, H1, nx1, h1, w1, fun F ac w Q ht hr hk => wp_block (k1 F ac w _ ht hr fun F' a' w' ht' hst hdf => hk F' a' w' ht' hst hdf)⟩
    | r => exact ⟨.r, T1, H1, nx1, h1, w1, fun F ac w Q ht hr hk => wp_block (k1 F ac w _ ht hr fun F' a' w' ht' hst hdf => hk F' a' w' ht' hst hdf)⟩
    | x id' =>
      replace h1 : cond (Nat.beq id' id) (kn T1 H1 nx1) (kx id' T1 H1 nx1) := h1
      cases hb : Nat.beq id' id with
      | true =>
        rw [hb] at h1
        simp only [cond_true] at h1
        have := Nat.eq_of_beq_eq_true hb
        subst this
        exact ⟨.n, T1, H1, nx1, h1, w1, fun F ac w Q ht hr hk => wp_block (k1 F ac w _ ht hr fun F' a' w' ht' hst hdf => by simp only [Ox.exit, Exit.inBlock, if_true]; exact hk F' a' w' ht' hst hdf)⟩
      | false =>
        rw [hb] at h1
        simp only [cond_false] at h1
        have hne : ¬ id' = id := fun e => by subst e; rw [Nat.beq_refl] at hb; cases hb
        exact ⟨.x id', T1, H1, nx1, h1, w1, fun F ac w Q ht hr hk => wp_block (k1 F ac w _ ht hr fun F' a' w' ht' hst hdf => by simp only [Ox.exit, Exit.inBlock, if_neg hne]; exact hk F' a' w' ht' hst hdf)⟩
  | cond v a b iha ihb =>
    intro T H nx kn kx kr h hw
    rw [exP] at h
    split at h
    · rename_i x hx
      rw [condV_eq] at h
      split at h
      · rename_i b0 hv
        cases b0 with
        | true =>
          obtain ⟨o1, T1, H1, nx1, h1, w1, k1⟩ := iha h hw
          refine ⟨o1, T1, H1, nx1, h1, w1, fun F ac w Q ht hr hk => wp_cond_true ?_ (k1 F ac w Q ht hr hk)⟩
          have := ht.evX hx; rw [hv] at this; exact this.bool_inv
        | false =>
          obtain ⟨o1, T1, H1, nx1, h1, w1, k1⟩ := ihb h hw
          refine ⟨o1, T1, H1, nx1, h1, w1, fun F ac w Q ht hr hk => wp_cond_false ?_ (k1 F ac w Q ht hr hk)⟩
          have := ht.evX hx; rw [hv] at this; exact this.bool_inv
      · exact h.elim
    · exact h.elim
  | loop a iha =>
    intro T H nx kn kx kr h hw
    rw [exP] at h
    cases hb : hasG a with
    | false => rw [hb] at h; exact leafP_sound hm hn hcall h hw
    | true =>
      rw [hb] at h
      simp only [cond_true] at h
      have rounds : ∀ (m : Nat) (T : Ev) (H : Heap) (nx : Nat), fixN m False (fun ih T H nx => exP P d n call G a T H nx ih kx kr) T H nx → WF d T → ∃ o T' H' nx', Ox.go kn kx kr o T' H' nx' ∧ WF d T' ∧
          ∀ (F : FM) (ac : Act) (w : World) (Q : Exit → Act → World → Prop), TR d F T n ac.tmps → HR F H nx w →
            (∀ F' a' w', TR d F' T' n a'.tmps → Stp F H nx w F' H' nx' w' → a'.defers = ac.defers → Q o.exit a' w') → Code.rounds P a Q m ac w := by
        intro m
        induction m with
        | zero => intro T H nx h; exact h.elim
        | succ m ihm =>
          intro T H nx h hw
          have h : exP P d n call G a T H nx (fixN m False (fun ih T H nx => exP P d n call G a T H nx ih kx kr)) kx kr := h
          obtain ⟨o1, T1, H1, nx1, h1, w1, k1⟩ := iha h hw
          cases o1 with
          | n =>
            obtain ⟨o2, T2, H2, nx2, h2, w2, k2⟩ := ihm T1 H1 nx1 h1 w1
            refine ⟨o2, T2, H2, nx2, h2, w2, fun F ac w Q ht hr hk => ?_⟩
            rw [rounds_succ]
            exact k1 F ac w _ ht hr fun F' a' w' ht' hst hdf => k2 F' a' w' Q ht' hst.hr fun F2 a2 w2 ht2 hst2 hdf2 => hk F2 a2 w2 ht2 (hst.trans hst2) (hdf2.trans hdf)
          | x id =>
            refine ⟨.x id, T1, H1, nx1, h1, w1, fun F ac w Q ht hr hk => ?_⟩
            rw [rounds_succ]
            exact k1 F ac w _ ht hr fun F' a' w' ht' hst hdf => hk F' a' w' ht' hst hdf
          | r =>
            refine ⟨.r, T1, H1, nx1, h1, w1, fun F ac w Q ht hr hk => ?_⟩
            rw [rounds_succ]
            exact k1 F ac w _ ht hr fun F' a' w' ht' hst hdf => hk F' a' w' ht' hst hdf
      obtain ⟨o1, T1, H1, nx1, h1, w1, k1⟩ := rounds 10000 T H nx h hw
      exact ⟨o1, T1, H1, nx1, h1, w1, fun F ac w Q ht hr hk => wp_loop_rounds 10000 (k1 F ac w Q ht hr hk)⟩
  | region id ops draw =>
    intro T H nx kn kx kr h hw
    cases draw with
    | true => exact leafP_sound hm hn hcall h hw
    | false =>
      rw [exP] at h
      cases hb : hasO ops.toList with
      | false => rw [hb] at h; exact leafP_sound hm hn hcall h hw
      | true =>
        rw [hb] at h
        simp only [cond_true] at h
        split at h
        · rename_i l hl
          obtain ⟨T', H', nx', h1, h2, h3⟩ := opsG_seg (ops := ops.toList) hn hcall hG ops.toList l 0 hl (fun j => by rw [Nat.zero_add]) h
          refine ⟨.n, T', H', nx', h1, h2 hw, fun F a w Q ht hr hk => wp_region ?_⟩
          have := h3 F a w Q ht hr fun F' a' w' ht' hst hdf => hk F' a' w' ht' hst hdf
          rw [List.range_eq_range']
          simpa using this
        · exact h.elim
  | _ => intro T H nx kn kx kr h hw; exact leafP_sound hm hn hcall h hw
/-- A function, run so. -/
noncomputable def exF (P : Program) (call : PCall) (G : Giv) (g : FuncId) (args : List Value) (H : Heap) (nx : Nat) (Q : Value → Prop) : Prop :=
  match nth P.funcs.toList g with
  | some fn => (match fn.body, compR P fn.ntmps fn.results.toList with
    | some c, some res => cond (Nat.ble (Nat.log2 fn.ntmps + 1) 8 && Nat.ble args.length fn.ntmps)
      (initT (Nat.log2 fn.ntmps + 1) args 0 .leaf fun T => exP P (Nat.log2 fn.ntmps + 1) fn.ntmps call G c T H nx
        (fun T H nx => resK P T H False (fun vs => forceV (tup vs) Q) res) (fun _ _ _ _ => False) (fun T H nx => resK P T H False (fun vs => forceV (tup vs) Q) res)) False
    | _, _ => False)
  | none => False
theorem exF_sound (hm : P.follows .mixedOrders = true) (hNG : NamesOK P) {call : PCall} (hcall : CallOK P call) {G : Giv} (hG : GivOK G) {g : FuncId} {args : List Value} {H : Heap} {nx : Nat} {Q : Value → Prop}
    (h : exF P call G g args H nx Q) : ∃ v H' nx', Q v ∧ CS P g args H nx v H' nx' := by
  unfold exF at h
  rw [nth_eq] at h
  split at h
  · rename_i fn hfn
    have hf' : P.funcs[g]? = some fn := by simpa using hfn
    split at h
    · rename_i c res hb hres
      cases hcd : (Nat.ble (Nat.log2 fn.ntmps + 1) 8 && Nat.ble args.length fn.ntmps) with
      | false => rw [hcd] at h; exact h.elim
      | true =>
        rw [hcd] at h
        simp only [cond_true] at h
        rw [Bool.and_eq_true] at hcd
        have h8 := Nat.le_of_ble_eq_true hcd.1
        have hl := Nat.le_of_ble_eq_true hcd.2
        have hd : fn.ntmps ≤ 2 ^ (Nat.log2 fn.ntmps + 1) := Nat.le_of_lt Nat.lt_log2_self
        rw [initT_eq] at h
        have wl : WF (Nat.log2 fn.ntmps + 1) (.leaf : Ev) := h8
        have hw := fillT_wf (Nat.log2 fn.ntmps + 1) args 0 .leaf wl
        obtain ⟨o, T', H1, nx1, hk, _, hok⟩ := exP_sound hm hd hcall hG c h hw
        have ho : (o = .n ∨ o = .r) ∧ resK P T' H1 False (fun vs => forceV (tup vs) Q) res := by
          cases o with
          | n => exact ⟨.inl rfl, hk⟩
          | r => exact ⟨.inr rfl, hk⟩
          | x id => exact hk.elim
        obtain ⟨ho, hk'⟩ := ho
        rcases resK_sound (d := Nat.log2 fn.ntmps + 1) (T := T') (H := H1) (nx := nx1) False _ res hres (fun vs => forceV (tup vs) Q) with h2 | ⟨vs, h2, hok2⟩
        · rw [h2] at hk'; exact hk'.elim
        · rw [h2, forceV_eq] at hk'
          refine ⟨tup vs, H1, nx1, hk', ⟨fn, c, hf', hb, hNG g fn hf'⟩, fun F args' w hr hv => ?_⟩
          refine calls_of_wp hf' hb (hok F _ w _ (TR_start hv hd h8 hl) hr fun F' a' w' ht' hst hdf => ?_)
          obtain ⟨vs', h3, h4⟩ := hok2 F' a'.tmps w' ht' hst.hr.hb
          have hpost : a'.defers = [] ∧ ∃ v, (results fn a'.tmps).run P w' = .ok v w' ∧ (∃ v' F', Ending.returned v = .returned v' ∧ VR F' (tup vs) v' ∧ Stp F H nx w F' H1 nx1 w') :=
            ⟨hdf, tup vs', results_run h3, tup vs', F', rfl, tup_vr h4, hst⟩
          rcases ho with rfl | rfl <;> exact hpost
    · exact h.elim
  · exact h.elim
end
/-! What may be given. -/
theorem rem_given (kd : IntKind) {m q : Nat} (hq : 0 < q) (k : Value → Prop) (h : k (.int kd (.ofNat (m % q)))) : binVK .rem (.int kd (.ofNat m)) (.int kd (.ofNat q)) False k := by
  show cond (eqK kd kd) (binFK .rem kd (.ofNat m) (.ofNat q) False k) False
  have e : eqK kd kd = true := by cases kd <;> rfl
  rw [e]
  show optK (intV .rem kd (.ofNat m) (.ofNat q)) False k
  rw [optK_eq]
  have e2 : intV .rem kd (.ofNat m) (.ofNat q) = some (.int kd (.ofNat (m % q))) := by
    show (if Int.ofNat q = 0 then none else some (Value.int kd ((Int.ofNat m).tmod (Int.ofNat q)))) = _
    rw [if_neg (by intro h; have h : (q : Int) = 0 := h; omega)]
    rfl
  rw [e2]; exact h
theorem conv_given {kd kd' : IntKind} {z : Int} (hz : kd.wrap z = z) (T : Ev) (H : Heap) (x : X) (k : Value → Prop) (hx : ev T x = .int kd' z) (h : k (.int kd z)) : rConvI kd x T H False k := by
  unfold rConvI
  rw [evK_eq, hx]
  dsimp only
  cases fits kd z with
  | true => exact h
  | false => 
    simp only [cond_false]
    rw [forceI_eq, hz]
    exact h
end Go.Clo
