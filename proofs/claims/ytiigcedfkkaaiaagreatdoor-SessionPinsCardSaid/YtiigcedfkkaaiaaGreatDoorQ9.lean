/-
  The closed executor: a function run part by part, where remainders of what is not known are given beforehand.
-/
import Derived.Test.YtiigcedfkkaaiaaGreatDoorQ8
import Derived.Laws.Entries
set_option linter.all false
namespace Go.Clo

/-- Where a remainder by 6 of a byte is taken: the operations ahead, its place, its operand, the operations behind. -/
def isRem (o : Oper) : Option Operand := match o.op with
  | .binOp .rem _ x (.const (.int .u8 (.ofNat 6))) _ => some x
  | _ => none
def remAt : List Oper → Option (List Oper × Oper × Operand × List Oper)
  | [] => none
  | o :: l => match isRem o with
    | some x => some ([], o, x, l)
    | none => match remAt l with
      | some (p, q, x, r) => some (o :: p, q, x, r)
      | none => none
theorem remAt_app : ∀ {l p : List Oper} {q : Oper} {x : Operand} {r : List Oper}, remAt l = some (p, q, x, r) → l = p ++ q :: r ∧ ∃ t u, q.op = .binOp .rem t x (.const (.int .u8 6)) u
  | [], p, q, x, r, h => by cases h
  | o :: l, p, q, x, r, h => by
    rw [remAt] at h
    split at h
    · rename_i x' ho
      cases h
      unfold isRem at ho
      split at ho
      · rename_i t x2 u h2
        cases ho
        exact ⟨rfl, t, u, h2⟩
      · cases ho
    · split at h
      · rename_i p' q' x' r' h1
        cases h
        obtain ⟨e, h2⟩ := remAt_app h1
        exact ⟨by rw [e]; rfl, h2⟩
      · cases h

abbrev PCall := CallT Prop
/-- A leaf of the code. -/
noncomputable def leafL (P : Program) (d n : Nat) (call : PCall) (c : Code) (T : Ev) (H : Heap) (nx : Nat) (kn kr : K Prop) : Prop :=
  match compC P n c with
  | some c' => execC c' P d call (chkB P) (fixN 1000000) False T H nx kn (fun _ _ _ _ => False) kr
  | none => False
noncomputable def remL (P : Program) (d n : Nat) (call : PCall) (f : Nat → Nat → (Nat → Prop) → Prop) (ops p : List Oper) (q : Oper) (x : Operand) (r : List Oper) (T : Ev) (H : Heap) (nx : Nat) (kn : K Prop) : Prop :=
  match compSs P n ops p, compSs P n ops r, compX n x, q.dst, q.guard with
  | some l1, some l2, some y, some t, none => cond (Nat.blt t n) ((rgC Prop P d l1).run call False (fun T H nx => match ev T y with
      | .int .u8 (.ofNat m) => f t m fun v => tsK d T t (.int .u8 (.ofNat v)) fun T => (rgC Prop P d l2).run call False kn T H nx
      | _ => False) T H nx) False
  | _, _, _, _, _ => False
noncomputable def regL (P : Program) (d n : Nat) (call : PCall) (f : Nat → Nat → (Nat → Prop) → Prop) (c : Code) (T : Ev) (H : Heap) (nx : Nat) (kn kr : K Prop) : Prop :=
  match c with
  | .region _ ops false => (match remAt ops.toList with
    | some (p, q, x, r) => remL P d n call f ops.toList p q x r T H nx kn
    | none => leafL P d n call c T H nx kn kr)
  | c => leafL P d n call c T H nx kn kr
noncomputable def exL (P : Program) (d n : Nat) (call : PCall) (f : Nat → Nat → (Nat → Prop) → Prop) : Code → Ev → Heap → Nat → K Prop → K Prop → Prop
  | .seq a b => fun T H nx kn kr => exL P d n call f a T H nx (fun T H nx => exL P d n call f b T H nx kn kr) kr
  | c => fun T H nx kn kr => regL P d n call f c T H nx kn kr

section
variable {P : Program} {d n : Nat}
theorem leafL_sound (hm : P.follows .mixedOrders = true) (hn : n ≤ 2 ^ d) {call : PCall} (hcall : CallOK P call) {c : Code} {T : Ev} {H : Heap} {nx : Nat} {kn kr : K Prop} (h : leafL P d n call c T H nx kn kr) (hw : WF d T) :
    ∃ o T' H' nx', ((o = .n ∧ kn T' H' nx') ∨ (o = .r ∧ kr T' H' nx')) ∧ WF d T' ∧ CodeOK P d n c T H nx o T' H' nx' := by
  unfold leafL at h
  split at h
  · rename_i c' hc
    rcases exec_sound (n := n) hm hn hcall (chkB_ok P) (fixN_ok 1000000) False c c' hc T H nx kn (fun _ _ _ _ => False) kr hw with e | ⟨o1, T1, H1, nx1, e, hw1, hok⟩
    · rw [e] at h; exact h.elim
    · rw [e] at h
      cases o1 with
      | n => exact ⟨.n, T1, H1, nx1, .inl ⟨rfl, h⟩, hw1, hok⟩
      | x i => exact h.elim
      | r => exact ⟨.r, T1, H1, nx1, .inr ⟨rfl, h⟩, hw1, hok⟩
  · exact h.elim
theorem run_rem {t : TypeId} {m : Nat} (hm : m < 256) (w : World) : (binOp .rem t (.int .u8 (.ofNat m)) (.int .u8 6)).run P w = .ok (.int .u8 (.ofNat (m % 6))) w := by
  have h1 : ((m : Int).tmod 6) = ((m % 6 : Nat) : Int) := rfl
  have h2 : IntKind.u8.wrap ((m % 6 : Nat) : Int) = ((m % 6 : Nat) : Int) := by
    simp only [IntKind.wrap, IntKind.signed, IntKind.bits]; simp; omega
  have e : (binOp .rem t (.int .u8 (.ofNat m)) (.int .u8 6)) = Op.intDiv .rem .u8 (m : Int) 6 := rfl
  rw [e]
  unfold Op.intDiv
  simp [Sem.run_pure, h1, h2]
theorem remL_sound (hn : n ≤ 2 ^ d) {call : PCall} (hcall : CallOK P call) {f : Nat → Nat → (Nat → Prop) → Prop} (hf : ∀ t m g, f t m g → g (m % 6) ∧ m < 256) {id : Nat} {ops : Array Oper} {p : List Oper} {q : Oper} {x : Operand} {r : List Oper} (ha : remAt ops.toList = some (p, q, x, r))
    {T : Ev} {H : Heap} {nx : Nat} {kn : K Prop} (h : remL P d n call f ops.toList p q x r T H nx kn) (hw : WF d T) :
    ∃ T' H' nx', kn T' H' nx' ∧ WF d T' ∧ CodeOK P d n (.region id ops false) T H nx .n T' H' nx' := by
  obtain ⟨hops, t0, u0, hq⟩ := remAt_app ha
  unfold remL at h
  split at h
  · rename_i l1 l2 y t hl1 hl2 hy ht hg
    cases hb : Nat.blt t n with
    | false => rw [hb] at h; exact h.elim
    | true =>
      rw [hb] at h
      simp only [cond_true] at h
      have htn : t < n := by rw [Nat.blt_eq] at hb; exact hb
      rw [rg_eq] at h
      rcases ops_seg (ops := ops.toList) hn hcall False (fun T H nx => match ev T y with
        | .int .u8 (.ofNat m) => f t m fun v => tsK d T t (.int .u8 (.ofNat v)) fun T => (rgC Prop P d l2).run call False kn T H nx
        | _ => False) p l1 0 hl1 (fun j hj => by rw [hops, Nat.zero_add, List.getElem?_append_left hj]) T H nx with e | ⟨T1, H1, nx1, e, hw1, hp1⟩
      · rw [e] at h; exact h.elim
      · rw [e] at h
        split at h
        · rename_i m hev
          obtain ⟨h, h256⟩ := hf _ _ _ h
          rw [tsK_eq, rg_eq] at h
          have hwf2 : WF d (ts d T1 t (.int .u8 (.ofNat (m % 6)))) := WF_ts d T1 t _ (hw1 hw).1
          rcases ops_seg (ops := ops.toList) hn hcall False kn r l2 (p.length + 1) hl2 (fun j hj => by
            rw [hops, List.getElem?_append_right (by omega)]
            have : p.length + 1 + j - p.length = j + 1 := by omega
            rw [this, List.getElem?_cons_succ]) (ts d T1 t (.int .u8 (.ofNat (m % 6)))) H1 nx1 with e2 | ⟨T2, H2, nx2, e2, hw2, hp2⟩
          · rw [e2] at h; exact h.elim
          · rw [e2] at h
            refine ⟨T2, H2, nx2, h, (hw2 hwf2).1, fun F a w Q hT hr hk => wp_region ?_⟩
            have hsz : ops.size = p.length + (r.length + 1) := by
              have := congrArg List.length hops
              simpa using this
            have er : List.range ops.size = List.range' 0 p.length ++ (p.length :: List.range' (p.length + 1) r.length) := by
              rw [hsz, List.range_eq_range', ← List.range'_append_1, List.range'_succ, Nat.zero_add]
            rw [er]
            have := hp1 F a w Q (p.length :: List.range' (p.length + 1) r.length) hT hr fun F1 a1 w1 hT1 hst1 hd1 => ?_
            · simpa using this
            · rw [wpOps_cons]
              unfold wpOp
              have hio : ops.toList.toArray[p.length]? = some q := by
                rw [List.getElem?_toArray, hops, List.getElem?_append_right (Nat.le_refl _), Nat.sub_self]; rfl
              simp only [hio]
              have hwant : Region.wanted q (yielded ops.toList.toArray a1.tmps) = true := by simp [Region.wanted, hg]
              rw [if_pos hwant]
              refine .inl (wp_of_value (v := .int .u8 (.ofNat (m % 6))) (w' := w1) ?_ ?_)
              · have hv := hT1.evX hy
                rw [hev] at hv
                have hv := hv.int_inv
                have hrr := run_rem (P := P) (t := t0) h256 w1
                have hge : ∀ (a b : Operand) (u v : Value), (eqGuard .rem t0 a b u v).run P w1 = .ok () w1 := fun _ _ _ _ => rfl
                simp only [execOp, hq, Sem.run_bind, hge, Result.andThen_ok]
                rw [show a1.eval (Operand.const (Value.int IntKind.u8 6)) = Value.int IntKind.u8 6 from rfl, hv, hrr]
                rfl
              · rw [ht]
                have := hp2 F1 _ w1 Q [] (hT1.put htn (VR.int _ _)) hst1.hr fun F2 a2 w2 hT2 hst2 hd2 => hk F2 a2 w2 hT2 (hst1.trans hst2) (hd2.trans ((put_defers _ _ _).trans hd1))
                simpa using this
        · exact h.elim
  · exact h.elim
theorem regL_sound (hm : P.follows .mixedOrders = true) (hn : n ≤ 2 ^ d) {call : PCall} (hcall : CallOK P call) {f : Nat → Nat → (Nat → Prop) → Prop} (hf : ∀ t m g, f t m g → g (m % 6) ∧ m < 256) {c : Code} {T : Ev} {H : Heap} {nx : Nat} {kn kr : K Prop}
    (h : regL P d n call f c T H nx kn kr) (hw : WF d T) : ∃ o T' H' nx', ((o = .n ∧ kn T' H' nx') ∨ (o = .r ∧ kr T' H' nx')) ∧ WF d T' ∧ CodeOK P d n c T H nx o T' H' nx' := by
  unfold regL at h
  split at h
  · rename_i id ops
    split at h
    · rename_i p q x r ha
      obtain ⟨T', H', nx', h1, h2, h3⟩ := remL_sound (id := id) hn hcall hf ha h hw
      exact ⟨.n, T', H', nx', .inl ⟨rfl, h1⟩, h2, h3⟩
    · exact leafL_sound hm hn hcall h hw
  · exact leafL_sound hm hn hcall h hw
theorem exL_sound (hm : P.follows .mixedOrders = true) (hn : n ≤ 2 ^ d) {call : PCall} (hcall : CallOK P call) {f : Nat → Nat → (Nat → Prop) → Prop} (hf : ∀ t m g, f t m g → g (m % 6) ∧ m < 256) : ∀ (c : Code) {T : Ev} {H : Heap} {nx : Nat} {kn kr : K Prop},
    exL P d n call f c T H nx kn kr → WF d T → ∃ o T' H' nx', ((o = .n ∧ kn T' H' nx') ∨ (o = .r ∧ kr T' H' nx')) ∧ WF d T' ∧ CodeOK P d n c T H nx o T' H' nx' := by
  intro c
  induction c with
  | seq a b iha ihb =>
    intro T H nx kn kr h hw
    rw [exL] at h
    obtain ⟨o1, T1, H1, nx1, h1, w1, k1⟩ := iha h hw
    rcases h1 with ⟨rfl, h1⟩ | ⟨rfl, h1⟩
    · obtain ⟨o2, T2, H2, nx2, h2, w2, k2⟩ := ihb h1 w1
      exact ⟨o2, T2, H2, nx2, h2, w2, fun F ac w Q ht hr hk => wp_seq (k1 F ac w _ ht hr fun F' a' w' ht' hst hdf => k2 F' a' w' Q ht' hst.hr fun F2 a2 w2 ht2 hst2 hdf2 => hk F2 a2 w2 ht2 (hst.trans hst2) (hdf2.trans hdf))⟩
    · exact ⟨.r, T1, H1, nx1, .inr ⟨rfl, h1⟩, w1, fun F ac w Q ht hr hk => wp_seq (k1 F ac w _ ht hr fun F' a' w' ht' hst hdf => hk F' a' w' ht' hst hdf)⟩
  | _ =>
    intro T H nx kn kr h hw
    exact regL_sound hm hn hcall hf h hw
/-- A function, run so. -/
noncomputable def exF (P : Program) (call : PCall) (f : Nat → Nat → (Nat → Prop) → Prop) (g : FuncId) (args : List Value) (H : Heap) (nx : Nat) (Q : Value → Prop) : Prop :=
  match nth P.funcs.toList g with
  | some fn => (match fn.body, compR P fn.ntmps fn.results.toList with
    | some c, some res => cond (Nat.ble (Nat.log2 fn.ntmps + 1) 8 && Nat.ble args.length fn.ntmps)
      (initT (Nat.log2 fn.ntmps + 1) args 0 .leaf fun T => exL P (Nat.log2 fn.ntmps + 1) fn.ntmps call f c T H nx
        (fun T H nx => resK P T H False (fun vs => forceV (tup vs) Q) res) (fun T H nx => resK P T H False (fun vs => forceV (tup vs) Q) res)) False
    | _, _ => False)
  | none => False
theorem exF_sound (hm : P.follows .mixedOrders = true) (hNG : NamesOK P) {call : PCall} (hcall : CallOK P call) {f : Nat → Nat → (Nat → Prop) → Prop} (hf : ∀ t m g, f t m g → g (m % 6) ∧ m < 256) {g : FuncId} {args : List Value} {H : Heap} {nx : Nat} {Q : Value → Prop}
    (h : exF P call f g args H nx Q) : ∃ v H' nx', Q v ∧ CS P g args H nx v H' nx' := by
  unfold exF at h
  rw [nth_eq] at h
  split at h
  · rename_i fn hfn
    have hf' : P.funcs[g]? = some fn := by simpa using hfn
    split at h
    · rename_i c res hb hres
      cases hcd : (Nat.ble (Nat.log2 fn.ntmps + 1) 8 && Nat.ble args.length fn.ntmps) with
      | false => rw [hcd] at h; exact h.elim
      | true =>
        rw [hcd] at h
        simp only [cond_true] at h
        rw [Bool.and_eq_true] at hcd
        have h8 := Nat.le_of_ble_eq_true hcd.1
        have hl := Nat.le_of_ble_eq_true hcd.2
        have hd : fn.ntmps ≤ 2 ^ (Nat.log2 fn.ntmps + 1) := Nat.le_of_lt Nat.lt_log2_self
        rw [initT_eq] at h
        have wl : WF (Nat.log2 fn.ntmps + 1) (.leaf : Ev) := h8
        have hw := fillT_wf (Nat.log2 fn.ntmps + 1) args 0 .leaf wl
        obtain ⟨o, T', H1, nx1, hk, _, hok⟩ := exL_sound hm hd hcall hf c h hw
        have hk' : resK P T' H1 False (fun vs => forceV (tup vs) Q) res := by
          rcases hk with ⟨_, hk⟩ | ⟨_, hk⟩ <;> exact hk
        have ho : o = .n ∨ o = .r := by
          rcases hk with ⟨e, _⟩ | ⟨e, _⟩
          · exact .inl e
          · exact .inr e
        rcases resK_sound (d := Nat.log2 fn.ntmps + 1) (T := T') (H := H1) (nx := nx1) False _ res hres (fun vs => forceV (tup vs) Q) with h2 | ⟨vs, h2, hok2⟩
        · rw [h2] at hk'; exact hk'.elim
        · rw [h2, forceV_eq] at hk'
          refine ⟨tup vs, H1, nx1, hk', ⟨fn, c, hf', hb, hNG g fn hf'⟩, fun F args' w hr hv => ?_⟩
          refine calls_of_wp hf' hb (hok F _ w _ (TR_start hv hd h8 hl) hr fun F' a' w' ht' hst hdf => ?_)
          obtain ⟨vs', h3, h4⟩ := hok2 F' a'.tmps w' ht' hst.hr.hb
          have hpost : a'.defers = [] ∧ ∃ v, (results fn a'.tmps).run P w' = .ok v w' ∧ (∃ v' F', Ending.returned v = .returned v' ∧ VR F' (tup vs) v' ∧ Stp F H nx w F' H1 nx1 w') :=
            ⟨hdf, tup vs', results_run h3, tup vs', F', rfl, tup_vr h4, hst⟩
          rcases ho with rfl | rfl <;> exact hpost
    · exact h.elim
  · exact h.elim
end
end Go.Clo
