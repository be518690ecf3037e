/-
  The closed executor: results, calls, and what a run says.
-/
import Derived.Test.YtdecggbglnbhlaaGreatDoorCloO
import Derived.Below
set_option linter.unusedSimpArgs false
set_option linter.unusedVariables false
set_option linter.unusedSectionVars false
namespace Go.Clo

section
variable {P : Program} {d n : Nat}

/-- One result. -/
def resOf (tmps : Array Value) : ResultVar → Sem Value
  | .tmp t => pure (tmps.getD t undef)
  | .cell a t => do loadVar t (← asAddr (tmps.getD a undef))
def resL (tmps : Array Value) : List ResultVar → Sem (List Value)
  | [] => pure []
  | r :: rs => do
    let v ← resOf tmps r
    let vs ← resL tmps rs
    pure (v :: vs)
theorem resL_eq (tmps : Array Value) (l : List ResultVar) : l.mapM (resOf tmps) = resL tmps l := by
  induction l with
  | nil => rfl
  | cons r l ih => simp only [List.mapM_cons, ih, resL]
theorem results_run {fn : Func} {tmps : Array Value} {w : World} {vs : List Value} (h : (resL tmps fn.results.toList).run P w = .ok vs w) :
    (results fn tmps).run P w = .ok (tup vs) w := by
  have e : results fn tmps = (do let vs ← fn.results.mapM (resOf tmps); pure (if h : vs.size = 1 then vs[0] else .tuple vs)) := by
    unfold results
    congr 1
  rw [e, Array.mapM_eq_mapM_toList, resL_eq]
  simp only [Sem.run_bind, Sem.run_map, h, Result.andThen_ok, Sem.run_pure]
  match vs with
  | [] => rfl
  | [v] => rfl
  | v :: v' :: vs => rfl

theorem resK_sound {β : Type} {T : Tree Value} {H : Heap} {nx : Nat} (z : β) : ∀ (rs : List ResultVar) (l : List (X × Option (Option Nat))), compR P n rs = some l → ∀ (k : List Value → β),
    resK P T H z k l = z ∨ ∃ vs, resK P T H z k l = k vs ∧ ∀ (F : FM) (tmps : Array Value) (w : World), TR d F T n tmps → HB F H nx w →
      ∃ vs', (resL tmps rs).run P w = .ok vs' w ∧ VL F vs vs' := by
  intro rs
  induction rs with
  | nil =>
    intro l hl k
    simp [compR] at hl; subst hl
    exact .inr ⟨[], rfl, fun F tmps w _ _ => ⟨[], rfl, .nil⟩⟩
  | cons r rs ih =>
    intro l hl k
    simp only [compR] at hl
    cases hrs : compR P n rs with
    | none => rw [hrs] at hl; split at hl <;> simp_all
    | some l2 =>
      rw [hrs] at hl
      cases r with
      | tmp t =>
        cases ht : Nat.blt t n with
        | false => simp [ht] at hl
        | true =>
          simp only [ht, cond_true, Option.some.injEq] at hl; subst hl
          have htn : t < n := by simpa [Nat.blt_eq] using ht
          simp only [resK]
          rw [evK_eq]
          rcases ih l2 hrs (fun vs => k (ev T (.s t) :: vs)) with h | ⟨vs, h, hok⟩
          · exact .inl h
          · refine .inr ⟨_, h, fun F tmps w htr hb => ?_⟩
            obtain ⟨vs', h1, h2⟩ := hok F tmps w htr hb
            refine ⟨tmps.getD t undef :: vs', ?_, .cons ?_ h2⟩
            · simp only [resL, resOf, Sem.run_bind, Sem.run_pure, Result.andThen_ok, h1]
            · rw [ev_s]; exact htr.get t htn
      | cell a t =>
        cases ht : Nat.blt a n with
        | false => simp [ht] at hl
        | true =>
          cases hsh : shapeA P t with
          | none => simp [ht, hsh] at hl
          | some sh =>
            simp only [ht, hsh, cond_true, Option.map_some, Option.some.injEq] at hl; subst hl
            have htn : a < n := by simpa [Nat.blt_eq] using ht
            simp only [resK]
            show rLd (.s a) sh T H z _ = z ∨ ∃ vs, rLd (.s a) sh T H z _ = _ ∧ _
            rcases rLd_sound (nx := nx) (T := T) (H := H) hsh (.s a) z (fun v => resK P T H z (fun vs => k (v :: vs)) l2) with h | ⟨v, h, hp⟩
            · exact .inl h
            · rw [h]
              rcases ih l2 hrs (fun vs => k (v :: vs)) with h | ⟨vs, h, hok⟩
              · exact .inl h
              · refine .inr ⟨_, h, fun F tmps w htr hb => ?_⟩
                obtain ⟨vs', h1, h2⟩ := hok F tmps w htr hb
                obtain ⟨ad, v', he, hr, hv⟩ := hp F (tmps.getD a undef) w (by rw [ev_s]; exact htr.get a htn) hb
                refine ⟨v' :: vs', ?_, .cons hv h2⟩
                have ha : (asAddr (tmps.getD a undef)).run P w = .ok ad w := by rw [he]; rfl
                simp only [resL, resOf, Sem.run_bind, ha, hr, Sem.run_pure, Result.andThen_ok, h1]

theorem tup_vr {F : FM} {l l' : List Value} (h : VL F l l') : VR F (tup l) (tup l') := by
  cases h with
  | nil => exact VR.tuple' .nil
  | cons h t =>
    cases t with
    | nil => exact h
    | cons h2 t => exact VR.tuple' (.cons h (.cons h2 t))

noncomputable def fillT (d : Nat) : List Value → Nat → Tree Value → Tree Value
  | [], _, T => T
  | v :: l, i, T => fillT d l (i + 1) (ts d T i v)
theorem initT_eq {β : Type} (d : Nat) (f : Tree Value → β) : ∀ (l : List Value) (i : Nat) (T : Tree Value), initT d l i T f = f (fillT d l i T)
  | [], _, _ => rfl
  | v :: l, i, T => by simp only [initT, fillT]; rw [tsK_eq]; exact initT_eq d f l _ _
theorem fillT_wf (d : Nat) : ∀ (l : List Value) (i : Nat) (T : Tree Value), WF d T → WF d (fillT d l i T)
  | [], _, _, h => h
  | v :: l, i, T, h => fillT_wf d l (i + 1) _ (WF_ts d T i v h)
theorem fillT_get (d : Nat) : ∀ (l : List Value) (i : Nat) (T : Tree Value) (j : Nat), WF d T → i + l.length ≤ 2 ^ d → j < 2 ^ d →
    tg (fillT d l i T) j = if i ≤ j ∧ j < i + l.length then l[j - i]? else tg T j
  | [], i, T, j, _, _, _ => by simp [fillT]; omega
  | v :: l, i, T, j, hw, hl, hj => by
    simp only [fillT]
    simp only [List.length_cons] at hl
    rw [fillT_get d l (i + 1) _ j (WF_ts d T i v hw) (by omega) hj, tg_ts d T i j v hw (by omega) hj]
    by_cases h1 : j = i
    · subst h1; rw [if_neg (by omega), if_pos rfl, if_pos (by simp)]; simp
    · by_cases h2 : i ≤ j ∧ j < i + (l.length + 1)
      · rw [if_pos (by omega), if_pos (by simpa using h2)]
        have : j - i = (j - (i + 1)) + 1 := by omega
        rw [this]; simp
      · rw [if_neg (by omega), if_neg h1, if_neg (by simpa using h2)]

theorem TR_start {F : FM} {args args' : List Value} (hv : VL F args args') (hn : n ≤ 2 ^ d) (hl : args.length ≤ n) :
    TR d F (fillT d args 0 .leaf) n (args'.toArray ++ Array.replicate (n - args'.toArray.size) undef) := by
  have hll := hv.length
  have wl : WF d (.leaf : Tree Value) := by cases d <;> trivial
  refine ⟨fillT_wf d args 0 _ wl, by simp; omega, hn, fun t ht => ?_⟩
  rw [fillT_get d args 0 .leaf t wl (by omega) (by omega)]
  by_cases h : t < args.length
  · rw [if_pos (by omega)]
    have h' : t < args'.length := by omega
    have e1 : args[t - 0]? = some args[t] := by simp [h]
    rw [e1]
    have e2 : (args'.toArray ++ Array.replicate (n - args'.toArray.size) undef).getD t undef = args'[t] := by
      simp [Array.getD_eq_getD_getElem?, Array.getElem?_append, h']
    rw [e2]
    exact hv.get t _ _ (by simp [h]) (by simp [h'])
  · rw [if_neg (by omega)]
    have e2 : (args'.toArray ++ Array.replicate (n - args'.toArray.size) undef).getD t undef = undef := by
      rw [Array.getD_eq_getD_getElem?, Array.getElem?_append, if_neg (by simp; omega), Array.getElem?_replicate]
      split <;> rfl
    rw [e2]
    exact VR.undef F

def OrcOK (P : Program) (orc : Orc) : Prop :=
  ∀ f o, orc f = some o → ∀ args H nx v H' nx', o args H nx = some (v, H', nx') → CS P f args H nx v H' nx'
theorem noOrc_ok (P : Program) : OrcOK P noOrc := fun _ _ h => by cases h

/-- No function bears the name that the machine takes for itself. -/
def NamesOK (P : Program) : Prop := ∀ (f : FuncId) (fn : Func), P.funcs[f]? = some fn → (fn.name == "runtime.NumGoroutine") = false

theorem body_sound {β : Type} (hm : P.follows .mixedOrders = true) {f : FuncId} {fn : Func} {c : Code} {body : C} {res : List (X × Option (Option Nat))} (hf : P.funcs[f]? = some fn) (hname : (fn.name == "runtime.NumGoroutine") = false) (hb : fn.body = some c)
    (hc : compC P fn.ntmps c = some body) (hres : compR P fn.ntmps fn.results.toList = some res) (hd : fn.ntmps ≤ 2 ^ d) {call : CallT β} (hcall : CallOK P call) {chk : ChkT β} (hchk : ChkOK P chk) {fx : FixT β} (hfx : FixOK fx) (args : List Value) (H : Heap) (nx : Nat) (z : β) (k : Value → Heap → Nat → β) :
    bodyK P call chk fx args H nx z k fn.ntmps d body res = z ∨ ∃ v H' nx', bodyK P call chk fx args H nx z k fn.ntmps d body res = k v H' nx' ∧ CS P f args H nx v H' nx' := by
  unfold bodyK
  cases hl : Nat.ble args.length fn.ntmps with
  | false => exact .inl rfl
  | true =>
    have hl := Nat.le_of_ble_eq_true hl
    simp only [cond_true]
    rw [initT_eq]
    have wl : WF d (.leaf : Tree Value) := by cases d <;> trivial
    have hw := fillT_wf d args 0 .leaf wl
    rcases exec_sound hm hd hcall hchk hfx z c body hc _ H nx (retK P res z k) (fun _ _ _ _ => z) (retK P res z k) hw with h | ⟨o, T', H', nx', h, hw', hok⟩
    · exact .inl h
    · rw [h]
      have fin : ∀ (hx : o = .n ∨ o = .r), retK P res z k T' H' nx' = z ∨ ∃ v H'' nx'', retK P res z k T' H' nx' = k v H'' nx'' ∧ CS P f args H nx v H'' nx'' := by
        intro hx
        unfold retK
        rcases resK_sound (d := d) (T := T') (H := H') (nx := nx') z _ res hres (fun vs => forceV (tup vs) fun v => k v H' nx') with h2 | ⟨vs, h2, hok2⟩
        · exact .inl h2
        · rw [h2, forceV_eq]
          refine .inr ⟨tup vs, H', nx', rfl, ⟨fn, c, hf, hb, hname⟩, fun F args' w hr hv => ?_⟩
          refine calls_of_wp hf hb (hok F _ w _ (TR_start hv hd hl) hr fun F' a' w' ht' hst hdf => ?_)
          obtain ⟨vs', h3, h4⟩ := hok2 F' a'.tmps w' ht' hst.hr.hb
          have hpost : a'.defers = [] ∧ ∃ v, (results fn a'.tmps).run P w' = .ok v w' ∧ (∃ v' F', Ending.returned v = .returned v' ∧ VR F' (tup vs) v' ∧ Stp F H nx w F' H' nx' w') :=
            ⟨hdf, tup vs', results_run h3, tup vs', F', rfl, tup_vr h4, hst⟩
          rcases hx with rfl | rfl <;> exact hpost
      cases o with
      | n => exact fin (.inl rfl)
      | x id => exact .inl rfl
      | r => exact fin (.inr rfl)

theorem callN_sound {β : Type} (hm : P.follows .mixedOrders = true) (hNG : NamesOK P) {orc : Orc} (ho : OrcOK P orc) : ∀ n, CallOK (β := β) P (callN P orc n)
  | 0 => fun f args H nx z k => .inl rfl
  | n + 1 => by
    intro f args H nx z k
    show (match orc f with
      | some o => (match o args H nx with
        | some (v, H, nx) => k v H nx
        | none => z)
      | none => match cfn P f with
        | some ⟨n', d, body, res⟩ => bodyK P (callN P orc n) (chkB P) (fixN 1000000) args H nx z k n' d body res
        | none => z) = z ∨ ∃ v H' nx', (match orc f with
      | some o => (match o args H nx with
        | some (v, H, nx) => k v H nx
        | none => z)
      | none => match cfn P f with
        | some ⟨n', d, body, res⟩ => bodyK P (callN P orc n) (chkB P) (fixN 1000000) args H nx z k n' d body res
        | none => z) = k v H' nx' ∧ _
    cases hof : orc f with
    | some o =>
      dsimp only
      cases hoo : o args H nx with
      | none => exact .inl rfl
      | some r => obtain ⟨v, H', nx'⟩ := r; exact .inr ⟨v, H', nx', rfl, ho f o hof _ _ _ _ _ _ hoo⟩
    | none =>
      dsimp only
      cases hcf : cfn P f with
      | none => exact .inl rfl
      | some r =>
        unfold cfn at hcf
        rw [nth_eq] at hcf
        cases hf : P.funcs.toList[f]? with
        | none => simp [hf] at hcf
        | some fn =>
          simp only [hf] at hcf
          have hf' : P.funcs[f]? = some fn := by simpa using hf
          cases hb : fn.body with
          | none => simp [hb] at hcf
          | some c =>
            simp only [hb] at hcf
            cases hc : compC P fn.ntmps c with
            | none => simp [hc] at hcf
            | some body =>
              cases hres : compR P fn.ntmps fn.results.toList with
              | none => simp [hc, hres] at hcf
              | some res =>
                simp only [hc, hres, Option.some.injEq] at hcf; subst hcf
                dsimp only
                exact body_sound hm hf' (hNG f fn hf') hb hc hres (Nat.le_of_lt Nat.lt_log2_self) (callN_sound hm hNG ho n) (chkB_ok P) (fixN_ok _) args H nx z k

/-- ████ WHAT A RUN SAYS. ████ -/
theorem run_calls {orc : Orc} (hm : P.follows .mixedOrders = true) (hNG : NamesOK P) (ho : OrcOK P orc) {f : FuncId} {args : List Value} {v : Value} (hr : runA P orc n f args = some v) (ha : args.all flat1 = true) (hv : flat v = true) (w : World) (hgw : GlW w) :
    Calls P f args.toArray w fun e w' => e = .returned v ∧ RowKit.Below w.heap.size w w' := by
  unfold runA at hr
  rcases callN_sound (β := Option Value) hm hNG ho n f args .leaf 0 none (fun v _ _ => some v) with h | ⟨v', H', nx', h, hcs⟩
  · rw [h] at hr; cases hr
  · rw [h] at hr; cases hr
    have h0 : HR (fun _ => none) .leaf 0 w :=
      ⟨fun i b hi => by omega, fun i j bi bj ti tj hi => by omega, fun _ _ => rfl, fun _ _ => rfl, ⟨hgw, fun x hx ⟨i, _, _, hi, _⟩ => by omega⟩⟩
    refine (hcs.2 (fun _ => none) args w h0 (flatL_refl _ args ha)).mono fun e w' ⟨v', F', he, hvr, hst⟩ => ?_
    refine ⟨by rw [he, flat_eq hvr hv], hst.os, hst.tape, hst.output, hst.size, fun b hb => hst.frame b hb fun ⟨i, _, _, hi, _⟩ => by omega⟩
end
end Go.Clo
