/-
  The closed executor: results, calls, and what a run says.
  The executor as a claim: calls by their contracts, the look at a region's readings, groups of guarded operations.
  The executor as a claim: groups in a region that draws; code with its joins marked; what such a claim says.
  The executor as a claim: what the claim of a function's code says of its calls.
  The executor as a claim: what each operation asks, value by value.
  The executor as a claim: rules for proofs.
  The executor as a claim: sets of vertices as numbers.
  The executor as a claim: slices that read as lists.
  The executor as a claim: append to a slice that the function has made.
  The closed executor: functions that defer one closure, whose call at the end changes nothing where nothing panics.
-/
import Derived.Test.YtbmiedinclieaaaGreatDoorU2
import Derived.Below
import Derived.Defers
set_option linter.all false
namespace Go.Clo

section
variable {P : Program} {d n : Nat}

/-- One result. -/
def resOf (tmps : Array Value) : ResultVar → Sem Value
  | .tmp t => pure (tmps.getD t undef)
  | .cell a t => do loadVar t (← asAddr (tmps.getD a undef))
def resL (tmps : Array Value) : List ResultVar → Sem (List Value)
  | [] => pure []
  | r :: rs => do
    let v ← resOf tmps r
    let vs ← resL tmps rs
    pure (v :: vs)
theorem resL_eq (tmps : Array Value) (l : List ResultVar) : l.mapM (resOf tmps) = resL tmps l := by
  induction l with
  | nil => rfl
  | cons r l ih => simp only [List.mapM_cons, ih, resL]
theorem results_run {fn : Func} {tmps : Array Value} {w : World} {vs : List Value} (h : (resL tmps fn.results.toList).run P w = .ok vs w) :
    (results fn tmps).run P w = .ok (tup vs) w := by
  have e : results fn tmps = (do let vs ← fn.results.mapM (resOf tmps); pure (if h : vs.size = 1 then vs[0] else .tuple vs)) := by
    unfold results
    congr 1
  rw [e, Array.mapM_eq_mapM_toList, resL_eq]
  simp only [Sem.run_bind, Sem.run_map, h, Result.andThen_ok, Sem.run_pure]
  match vs with
  | [] => rfl
  | [v] => rfl
  | v :: v' :: vs => rfl

theorem resK_sound {β : Type} {T : Tree Value} {H : Heap} {nx : Nat} (z : β) : ∀ (rs : List ResultVar) (l : List (X × Option (Option Nat))), compR P n rs = some l → ∀ (k : List Value → β),
    resK P T H z k l = z ∨ ∃ vs, resK P T H z k l = k vs ∧ ∀ (F : FM) (tmps : Array Value) (w : World), TR d F T n tmps → HB F H nx w →
      ∃ vs', (resL tmps rs).run P w = .ok vs' w ∧ VL F vs vs' := by
  intro rs
  induction rs with
  | nil =>
    intro l hl k
    simp [compR] at hl; subst hl
    exact .inr ⟨[], rfl, fun F tmps w _ _ => ⟨[], rfl, .nil⟩⟩
  | cons r rs ih =>
    intro l hl k
    simp only [compR] at hl
    cases hrs : compR P n rs with
    | none => rw [hrs] at hl; split at hl <;> simp_all
    | some l2 =>
      rw [hrs] at hl
      cases r with
      | tmp t =>
        cases ht : Nat.blt t n with
        | false => simp [ht] at hl
        | true =>
          simp only [ht, cond_true, Option.some.injEq] at hl; subst hl
          have htn : t < n := by simpa [Nat.blt_eq] using ht
          simp only [resK]
          rw [evK_eq]
          rcases ih l2 hrs (fun vs => k (ev T (.s t) :: vs)) with h | ⟨vs, h, hok⟩
          · exact .inl h
          · refine .inr ⟨_, h, fun F tmps w htr hb => ?_⟩
            obtain ⟨vs', h1, h2⟩ := hok F tmps w htr hb
            refine ⟨tmps.getD t undef :: vs', ?_, .cons ?_ h2⟩
            · simp only [resL, resOf, Sem.run_bind, Sem.run_pure, Result.andThen_ok, h1]
            · rw [ev_s]; exact htr.get t htn
      | cell a t =>
        cases ht : Nat.blt a n with
        | false => simp [ht] at hl
        | true =>
          cases hsh : shapeA P t with
          | none => simp [ht, hsh] at hl
          | some sh =>
            simp only [ht, hsh, cond_true, Option.map_some, Option.some.injEq] at hl; subst hl
            have htn : a < n := by simpa [Nat.blt_eq] using ht
            simp only [resK]
            show rLd (.s a) sh T H z _ = z ∨ ∃ vs, rLd (.s a) sh T H z _ = _ ∧ _
            rcases rLd_sound (nx := nx) (T := T) (H := H) hsh (.s a) z (fun v => resK P T H z (fun vs => k (v :: vs)) l2) with h | ⟨v, h, hp⟩
            · exact .inl h
            · rw [h]
              rcases ih l2 hrs (fun vs => k (v :: vs)) with h | ⟨vs, h, hok⟩
              · exact .inl h
              · refine .inr ⟨_, h, fun F tmps w htr hb => ?_⟩
                obtain ⟨vs', h1, h2⟩ := hok F tmps w htr hb
                obtain ⟨ad, v', he, hr, hv⟩ := hp F (tmps.getD a undef) w (by rw [ev_s]; exact htr.get a htn) hb
                refine ⟨v' :: vs', ?_, .cons hv h2⟩
                have ha : (asAddr (tmps.getD a undef)).run P w = .ok ad w := by rw [he]; rfl
                simp only [resL, resOf, Sem.run_bind, ha, hr, Sem.run_pure, Result.andThen_ok, h1]

theorem tup_vr {F : FM} {l l' : List Value} (h : VL F l l') : VR F (tup l) (tup l') := by
  cases h with
  | nil => exact VR.tuple' .nil
  | cons h t =>
    cases t with
    | nil => exact h
    | cons h2 t => exact VR.tuple' (.cons h (.cons h2 t))

noncomputable def fillT (d : Nat) : List Value → Nat → Tree Value → Tree Value
  | [], _, T => T
  | v :: l, i, T => fillT d l (i + 1) (ts d T i v)
theorem initT_eq {β : Type} (d : Nat) (f : Tree Value → β) : ∀ (l : List Value) (i : Nat) (T : Tree Value), initT d l i T f = f (fillT d l i T)
  | [], _, _ => rfl
  | v :: l, i, T => by simp only [initT, fillT]; rw [tsK_eq]; exact initT_eq d f l _ _
theorem fillT_wf (d : Nat) : ∀ (l : List Value) (i : Nat) (T : Tree Value), WF d T → WF d (fillT d l i T)
  | [], _, _, h => h
  | v :: l, i, T, h => fillT_wf d l (i + 1) _ (WF_ts d T i v h)
theorem fillT_get (d : Nat) : ∀ (l : List Value) (i : Nat) (T : Tree Value) (j : Nat), WF d T → i + l.length ≤ 2 ^ d → j < 2 ^ d →
    tg (fillT d l i T) j = if i ≤ j ∧ j < i + l.length then l[j - i]? else tg T j
  | [], i, T, j, _, _, _ => by simp [fillT]; omega
  | v :: l, i, T, j, hw, hl, hj => by
    simp only [fillT]
    simp only [List.length_cons] at hl
    rw [fillT_get d l (i + 1) _ j (WF_ts d T i v hw) (by omega) hj, tg_ts d T i j v hw (by omega) hj]
    by_cases h1 : j = i
    · subst h1; rw [if_neg (by omega), if_pos rfl, if_pos (by simp)]; simp
    · by_cases h2 : i ≤ j ∧ j < i + (l.length + 1)
      · rw [if_pos (by omega), if_pos (by simpa using h2)]
        have : j - i = (j - (i + 1)) + 1 := by omega
        rw [this]; simp
      · rw [if_neg (by omega), if_neg h1, if_neg (by simpa using h2)]

theorem TR_start {F : FM} {args args' : List Value} (hv : VL F args args') (hn : n ≤ 2 ^ d) (h8 : d ≤ 8) (hl : args.length ≤ n) :
    TR d F (fillT d args 0 .leaf) n (args'.toArray ++ Array.replicate (n - args'.toArray.size) undef) := by
  have hll := hv.length
  have wl : WF d (.leaf : Tree Value) := h8
  refine ⟨fillT_wf d args 0 _ wl, by simp; omega, hn, fun t ht => ?_⟩
  rw [fillT_get d args 0 .leaf t wl (by omega) (by omega)]
  by_cases h : t < args.length
  · rw [if_pos (by omega)]
    have h' : t < args'.length := by omega
    have e1 : args[t - 0]? = some args[t] := by simp [h]
    rw [e1]
    have e2 : (args'.toArray ++ Array.replicate (n - args'.toArray.size) undef).getD t undef = args'[t] := by
      simp [Array.getD_eq_getD_getElem?, Array.getElem?_append, h']
    rw [e2]
    exact hv.get t _ _ (by simp [h]) (by simp [h'])
  · rw [if_neg (by omega)]
    have e2 : (args'.toArray ++ Array.replicate (n - args'.toArray.size) undef).getD t undef = undef := by
      rw [Array.getD_eq_getD_getElem?, Array.getElem?_append, if_neg (by simp; omega), Array.getElem?_replicate]
      split <;> rfl
    rw [e2, tg_leaf]
    exact VR.undef F

def OrcOK (P : Program) (orc : Orc) : Prop :=
  ∀ f o, orc f = some o → ∀ args H nx v H' nx', o args H nx = some (v, H', nx') → CS P f args H nx v H' nx'
theorem noOrc_ok (P : Program) : OrcOK P noOrc := fun _ _ h => by cases h

/-- No function bears the name that the machine takes for itself. -/
def NamesOK (P : Program) : Prop := ∀ (f : FuncId) (fn : Func), P.funcs[f]? = some fn → (fn.name == "runtime.NumGoroutine") = false

theorem body_sound {β : Type} (hm : P.follows .mixedOrders = true) {f : FuncId} {fn : Func} {c : Code} {body : C} {res : List (X × Option (Option Nat))} (hf : P.funcs[f]? = some fn) (hname : (fn.name == "runtime.NumGoroutine") = false) (hb : fn.body = some c)
    (hc : compC P fn.ntmps c = some body) (hres : compR P fn.ntmps fn.results.toList = some res) (hd : fn.ntmps ≤ 2 ^ d) (h8 : d ≤ 8) {call : CallT β} (hcall : CallOK P call) {chk : ChkT β} (hchk : ChkOK P chk) {fx : FixT β} (hfx : FixOK fx) (args : List Value) (H : Heap) (nx : Nat) (z : β) (k : Value → Heap → Nat → β) :
    bodyK P call chk fx args H nx z k fn.ntmps d body res = z ∨ ∃ v H' nx', bodyK P call chk fx args H nx z k fn.ntmps d body res = k v H' nx' ∧ CS P f args H nx v H' nx' := by
  unfold bodyK
  cases hl : Nat.ble args.length fn.ntmps with
  | false => exact .inl rfl
  | true =>
    have hl := Nat.le_of_ble_eq_true hl
    simp only [cond_true]
    rw [initT_eq]
    have wl : WF d (.leaf : Tree Value) := h8
    have hw := fillT_wf d args 0 .leaf wl
    rcases exec_sound hm hd hcall hchk hfx z c body hc _ H nx (retK P res z k) (fun _ _ _ _ => z) (retK P res z k) hw with h | ⟨o, T', H', nx', h, hw', hok⟩
    · exact .inl h
    · rw [h]
      have fin : ∀ (hx : o = .n ∨ o = .r), retK P res z k T' H' nx' = z ∨ ∃ v H'' nx'', retK P res z k T' H' nx' = k v H'' nx'' ∧ CS P f args H nx v H'' nx'' := by
        intro hx
        unfold retK
        rcases resK_sound (d := d) (T := T') (H := H') (nx := nx') z _ res hres (fun vs => forceV (tup vs) fun v => k v H' nx') with h2 | ⟨vs, h2, hok2⟩
        · exact .inl h2
        · rw [h2, forceV_eq]
          refine .inr ⟨tup vs, H', nx', rfl, ⟨fn, c, hf, hb, hname⟩, fun F args' w hr hv => ?_⟩
          refine calls_of_wp hf hb (hok F _ w _ (TR_start hv hd h8 hl) hr fun F' a' w' ht' hst hdf => ?_)
          obtain ⟨vs', h3, h4⟩ := hok2 F' a'.tmps w' ht' hst.hr.hb
          have hpost : a'.defers = [] ∧ ∃ v, (results fn a'.tmps).run P w' = .ok v w' ∧ (∃ v' F', Ending.returned v = .returned v' ∧ VR F' (tup vs) v' ∧ Stp F H nx w F' H' nx' w') :=
            ⟨hdf, tup vs', results_run h3, tup vs', F', rfl, tup_vr h4, hst⟩
          rcases hx with rfl | rfl <;> exact hpost
      cases o with
      | n => exact fin (.inl rfl)
      | x id => exact .inl rfl
      | r => exact fin (.inr rfl)

theorem callN_sound {β : Type} (hm : P.follows .mixedOrders = true) (hNG : NamesOK P) {orc : Orc} (ho : OrcOK P orc) : ∀ n, CallOK (β := β) P (callN P orc n)
  | 0 => fun f args H nx z k => .inl rfl
  | n + 1 => by
    intro f args H nx z k
    show (match orc f with
      | some o => (match o args H nx with
        | some (v, H, nx) => k v H nx
        | none => z)
      | none => match cfn P f with
        | some ⟨n', d, body, res⟩ => bodyK P (callN P orc n) (chkB P) (fixN 1000000) args H nx z k n' d body res
        | none => z) = z ∨ ∃ v H' nx', (match orc f with
      | some o => (match o args H nx with
        | some (v, H, nx) => k v H nx
        | none => z)
      | none => match cfn P f with
        | some ⟨n', d, body, res⟩ => bodyK P (callN P orc n) (chkB P) (fixN 1000000) args H nx z k n' d body res
        | none => z) = k v H' nx' ∧ _
    cases hof : orc f with
    | some o =>
      dsimp only
      cases hoo : o args H nx with
      | none => exact .inl rfl
      | some r => obtain ⟨v, H', nx'⟩ := r; exact .inr ⟨v, H', nx', rfl, ho f o hof _ _ _ _ _ _ hoo⟩
    | none =>
      dsimp only
      cases hcf : cfn P f with
      | none => exact .inl rfl
      | some r =>
        unfold cfn at hcf
        rw [nth_eq] at hcf
        cases hf : P.funcs.toList[f]? with
        | none => simp [hf] at hcf
        | some fn =>
          simp only [hf] at hcf
          have hf' : P.funcs[f]? = some fn := by simpa using hf
          cases hb : fn.body with
          | none => simp [hb] at hcf
          | some c =>
            simp only [hb] at hcf
            cases hc : compC P fn.ntmps c with
            | none => simp [hc] at hcf
            | some body =>
              cases hres : compR P fn.ntmps fn.results.toList with
              | none => simp [hc, hres] at hcf
              | some res =>
                simp only [hc, hres] at hcf
                cases h8 : Nat.ble (Nat.log2 fn.ntmps + 1) 8 with
                | false => simp [h8] at hcf
                | true =>
                simp only [h8, cond_true, Option.some.injEq] at hcf; subst hcf
                dsimp only
                exact body_sound hm hf' (hNG f fn hf') hb hc hres (Nat.le_of_lt Nat.lt_log2_self) (Nat.le_of_ble_eq_true h8) (callN_sound hm hNG ho n) (chkB_ok P) (fixN_ok _) args H nx z k

/-- ████ WHAT A RUN SAYS. ████ -/
theorem run_calls {orc : Orc} (hm : P.follows .mixedOrders = true) (hNG : NamesOK P) (ho : OrcOK P orc) {f : FuncId} {args : List Value} {v : Value} (hr : runA P orc n f args = some v) (ha : args.all flat1 = true) (hv : flat v = true) (w : World) (hgw : GlW w) :
    Calls P f args.toArray w fun e w' => e = .returned v ∧ RowKit.Below w.heap.size w w' := by
  unfold runA at hr
  rcases callN_sound (β := Option Value) hm hNG ho n f args .leaf 0 none (fun v _ _ => some v) with h | ⟨v', H', nx', h, hcs⟩
  · rw [h] at hr; cases hr
  · rw [h] at hr; cases hr
    have h0 : HR (fun _ => none) .leaf 0 w :=
      ⟨fun i b hi => by omega, fun i j bi bj ti tj hi => by omega, fun _ _ => rfl, fun i _ => getH_leaf i, ⟨hgw, fun x hx ⟨i, _, _, hi, _⟩ => by omega⟩⟩
    refine (hcs.2 (fun _ => none) args w h0 (flatL_refl _ args ha)).mono fun e w' ⟨v', F', he, hvr, hst⟩ => ?_
    refine ⟨by rw [he, flat_eq hvr hv], hst.os, hst.tape, hst.output, hst.size, fun b hb => hst.frame b hb fun ⟨i, _, _, hi, _⟩ => by omega⟩
end
end Go.Clo

namespace Go.Clo

/-! Calls. -/
/-- A call of the function answers so that Q holds. -/
def Ans (P : Program) (f : FuncId) (args : List Value) (H : Heap) (nx : Nat) (Q : Value → Heap → Nat → Prop) : Prop :=
  ∃ v H' nx', CS P f args H nx v H' nx' ∧ Q v H' nx'
def callP (P : Program) : CallT Prop := fun f args H nx z k => z ∨ Ans P f args H nx k
theorem callP_ok (P : Program) : CallOK P (callP P) := by
  intro f args H nx z k
  by_cases hz : z
  · exact .inl (by unfold callP; simp [hz])
  · by_cases h : Ans P f args H nx k
    · obtain ⟨v, H', nx', hcs, hk⟩ := h
      refine .inr ⟨v, H', nx', ?_, hcs⟩
      unfold callP
      apply propext
      exact ⟨fun _ => hk, fun _ => .inr ⟨v, H', nx', hcs, hk⟩⟩
    · exact .inl (by unfold callP; apply propext; exact ⟨fun hh => hh.elim id (fun hh => absurd hh h), .inl⟩)
theorem Ans.mono {P : Program} {f : FuncId} {args : List Value} {H : Heap} {nx : Nat} {Q Q' : Value → Heap → Nat → Prop} (h : Ans P f args H nx Q) (hq : ∀ v H' nx', Q v H' nx' → Q' v H' nx') : Ans P f args H nx Q' :=
  let ⟨v, H', nx', h1, h2⟩ := h; ⟨v, H', nx', h1, hq _ _ _ h2⟩

/-! Readings. -/
noncomputable def sameP (P : Program) (ms : List Nat) (N : Nat) (as : List (Nat × Blk)) (r : Rd) : List Nat → List Heap → Heap → List Nat → Prop
  | es, Ms, M, later =>
    (cond (es.any (fun e => mBit ms e r.i) || later.any (fun e => mBit ms r.i e)) True
      (seesK ms N es r.i M (fun h => evR P r.r r.T h False fun v => v = r.v) as)) ∧
    (match es, Ms with
     | e :: es', M' :: Ms' => cond (mBit ms r.i e) True (sameP P ms N as r es' Ms' M' (e :: later))
     | [], [] => True
     | _, _ => False)
noncomputable def allP (P : Program) (ms : List Nat) (N : Nat) (as : List (Nat × Blk)) (es : List Nat) (Ms : List Heap) (H : Heap) : List Rd → Prop
  | [] => True
  | r :: rs => sameP P ms N as r es Ms H [] ∧ allP P ms N as es Ms H rs
noncomputable def chkP (P : Program) : ChkT Prop := fun ms N as rs es Ms H y z => (allP P ms N as es Ms H rs ∧ y) ∨ z
theorem sameP_at {P : Program} {ms : List Nat} {N : Nat} {as : List (Nat × Blk)} {r : Rd} {H0 : Heap} : ∀ (rc : List Rec) (later : List Nat), sameP P ms N as r (esR rc) (MsR H0 rc) (hR H0 rc) later → ∀ (pre l' : List Rec), rc = pre ++ l' →
    (∀ e, e ∈ esR rc → e ∉ esR l' → mBit ms r.i e = false) → (∀ e ∈ later, mBit ms r.i e = false) → (∀ e ∈ esR l', mBit ms e r.i = false) →
    evR P r.r r.T (addB N (fun j => mBit ms r.i j && !merged ms (esR l') j) (hR H0 l') as) False (fun v => v = r.v)
  | rc, later, h, [], l', e, _, h2, h3 => by
    simp at e; subst e
    rw [sameP.eq_def] at h
    have c1 : ((esR rc).any (fun e => mBit ms e r.i) || later.any (fun e => mBit ms r.i e)) = false := by
      rw [Bool.or_eq_false_iff]
      refine ⟨?_, ?_⟩
      · rw [List.any_eq_false]; intro x hx; simp [h3 x hx]
      · rw [List.any_eq_false]; intro x hx; simp [h2 x hx]
    have := h.1
    rw [c1] at this
    simp only [cond_false] at this
    rw [sees_eq] at this
    exact this
  | [], later, h, p :: pre, l', e, _, _, _ => by simp at e
  | r0 :: l, later, h, p :: pre, l', e, h1, h2, h3 => by
    simp at e
    obtain ⟨rfl, rfl⟩ := e
    cases hinf : r0.inf with
    | e H' nx' =>
      simp only [esR, MsR, hR, hinf] at h
      rw [sameP.eq_def] at h
      have hb := h.2
      dsimp only at hb
      have hidx : mBit ms r.i (pre ++ l').length = false := h1 _ (by simp [esR, hinf]) (fun hm => by have := esR_lt hm; simp at this; omega)
      rw [hidx] at hb
      simp only [cond_false] at hb
      refine sameP_at (pre ++ l') _ hb pre l' rfl (fun e he hn => h1 e (by simp [esR, hinf, he]) hn) ?_ h3
      intro e he
      rcases List.mem_cons.1 he with rfl | he
      · exact hidx
      · exact h2 e he
    | _ =>
      simp only [esR, MsR, hR, hinf] at h
      exact sameP_at (pre ++ l') later h pre l' rfl (fun e he hn => h1 e (by simp [esR, hinf, he]) hn) h2 h3
theorem allP_mem {P : Program} {ms : List Nat} {N : Nat} {as : List (Nat × Blk)} {es : List Nat} {Ms : List Heap} {H : Heap} : ∀ {rs : List Rd}, allP P ms N as es Ms H rs → ∀ r ∈ rs, sameP P ms N as r es Ms H []
  | [], _, r, hr => by cases hr
  | r0 :: rs, h, r, hr => by
    rcases List.mem_cons.1 hr with rfl | hr
    · exact h.1
    · exact allP_mem h.2 r hr
theorem chkP_ok (P : Program) : ChkOK P (chkP P) := by
  intro d n ops N H0 rc y z
  unfold chkP
  by_cases hz : z
  · exact .inl (by apply propext; simp [hz])
  · by_cases hall : allP P (masks ops) N (asR rc) (esR rc) (MsR H0 rc) (hR H0 rc) (rsR rc)
    · refine .inr ⟨by apply propext; simp [hall, hz], fun r hr pre l' hsuf h1 h2 => .inr fun nx o hc => ?_⟩
      have hsame := sameP_at rc [] (allP_mem hall r hr) pre l' hsuf h1 (by simp) h2
      rcases soundR (P := P) (d := d) (n := n) (nx := nx) (o := o) (T := r.T) (H := addB N (fun j => mBit (masks ops) r.i j && !merged (masks ops) (esR l') j) (hR H0 l') (asR rc)) hc False (fun v => v = r.v) with h | ⟨v, h, hrv⟩
      · rw [h] at hsame; exact hsame.elim
      · rw [h] at hsame
        rw [← hsame]; exact hrv
    · exact .inl (by apply propext; simp [hall])

/-! Groups of operations under one guard. -/
/-- What a guard says: carry out, leave out, or nothing. -/
noncomputable def wdec (g : Option (Nat × Bool)) (T : Tree Value) : Option Bool := wantK g T none (some true) (some false)
theorem wantK_dec {β : Type} (g : Option (Nat × Bool)) (T : Tree Value) (z yes no : β) : wantK g T z yes no = match wdec g T with | none => z | some true => yes | some false => no := by
  unfold wdec wantK
  cases g with
  | none => rfl
  | some tw =>
    obtain ⟨t, want⟩ := tw
    dsimp only
    rw [tgK_eq, tgK_eq]
    cases tg T t with
    | none => rfl
    | some v =>
      dsimp only [Option.elim_some]
      cases v <;> try rfl
      rename_i b
      dsimp only
      rw [ifK_eq, ifK_eq]
      cases b <;> cases want <;> rfl
theorem wdec_put {d : Nat} {T : Tree Value} {t q : Nat} {want : Bool} {v : Value} (hw : WF d T) (ht : t < 2 ^ d) (hq : q < 2 ^ d) (hne : q ≠ t) : wdec (some (t, want)) (ts d T q v) = wdec (some (t, want)) T := by
  unfold wdec wantK
  dsimp only
  rw [tgK_eq, tgK_eq, tg_ts d T q t v hw hq ht, if_neg (Ne.symm hne)]

/-- A slot written with what it holds. -/
theorem sE1_same {i : Nat} (hi : i < 8) (A : Ev8) : sE1 i A ((gE1 i).run A) = A := by
  cases A; rcases i with _|_|_|_|_|_|_|_|i <;> first | rfl | omega
theorem sE2_same {i : Nat} (hi : i / 8 < 8) (A : Ev64) : sE2 i A ((gE1 (i % 8)).run ((gE2 (i / 8)).run A)) = A := by
  have hm : i % 8 < 8 := Nat.mod_lt _ (by omega)
  show (qE2 Ev64 (i % 8) (i / 8)).run A _ id = A
  rw [qE2_eq]
  generalize i / 8 = q at *
  generalize i % 8 = m at *
  obtain ⟨a, b, c, d, e, f, g, h⟩ := A
  rcases q with _|_|_|_|_|_|_|_|q
  · show Ev64.mk (sE1 m a ((gE1 m).run a)) b c d e f g h = _; rw [sE1_same hm]
  · show Ev64.mk a (sE1 m b ((gE1 m).run b)) c d e f g h = _; rw [sE1_same hm]
  · show Ev64.mk a b (sE1 m c ((gE1 m).run c)) d e f g h = _; rw [sE1_same hm]
  · show Ev64.mk a b c (sE1 m d ((gE1 m).run d)) e f g h = _; rw [sE1_same hm]
  · show Ev64.mk a b c d (sE1 m e ((gE1 m).run e)) f g h = _; rw [sE1_same hm]
  · show Ev64.mk a b c d e (sE1 m f ((gE1 m).run f)) g h = _; rw [sE1_same hm]
  · show Ev64.mk a b c d e f (sE1 m g ((gE1 m).run g)) h = _; rw [sE1_same hm]
  · show Ev64.mk a b c d e f g (sE1 m h ((gE1 m).run h)) = _; rw [sE1_same hm]
  · omega
theorem sE3_same {i : Nat} (hi : i / 64 < 4) (T : Ev) : sE3 i T (gv T i) = T := by
  have hm : i % 64 / 8 < 8 := by omega
  have e1 : i % 8 = i % 64 % 8 := by omega
  have e2 : i / 8 % 8 = i % 64 / 8 := by omega
  unfold gv
  rw [e1, e2]
  show (qE3 Ev (i % 64) (i / 64)).run T _ id = T
  rw [qE3_eq]
  generalize i / 64 = q at *
  generalize i % 64 = m at *
  obtain ⟨a, b, c, d⟩ := T
  rcases q with _|_|_|_|q
  · show Ev.mk (sE2 m a ((gE1 (m % 8)).run ((gE2 (m / 8)).run a))) b c d = _; rw [sE2_same hm]
  · show Ev.mk a (sE2 m b ((gE1 (m % 8)).run ((gE2 (m / 8)).run b))) c d = _; rw [sE2_same hm]
  · show Ev.mk a b (sE2 m c ((gE1 (m % 8)).run ((gE2 (m / 8)).run c))) d = _; rw [sE2_same hm]
  · show Ev.mk a b c (sE2 m d ((gE1 (m % 8)).run ((gE2 (m / 8)).run d))) = _; rw [sE2_same hm]
  · omega
theorem ts_same (d : Nat) (T : Ev) (t : Nat) (v : Value) (hw : WF d T) (ht : t < 2 ^ d) (hg : tg T t = some v) : ts d T t v = T := by
  have := pow_le8 hw
  rw [tg_gv] at hg
  cases hg
  exact sE3_same (by omega) T
def okT (d : Nat) : Option (Nat × Bool) → Bool
  | none => true
  | some (t, _) => Nat.blt t (2 ^ d)
/-- How the groups of a region go on: a guard is asked, and both ways have their own; else one way. -/
inductive HT where
  | nil
  | one (r : HT)
  | tst (y n : HT)
abbrev G := Option (Nat × Bool) × List S
def guardS (g : Option (Nat × Bool)) (s : S) : S := ⟨g, s.dst, s.i⟩
def eraseG : List G → List S
  | [] => []
  | (g, l) :: gs => l.map (guardS g) ++ eraseG gs
/-- The group's slots: none is the guard's. -/
def okL (d : Nat) (g : Option (Nat × Bool)) : List S → Bool
  | [] => true
  | s :: l => (match s.guard with | none => true | some _ => false) && (match g, s.dst with
    | some (t, _), some q => Nat.blt t (2 ^ d) && Nat.blt q (2 ^ d) && !(Nat.beq q t)
    | _, _ => true) && okL d g l
def okG (d : Nat) : List G → Bool
  | [] => true
  | (g, l) :: gs => okL d g l && (match l with | [] => false | _ => true) && okG d gs && okT d g
noncomputable def skipK {β : Type} (d : Nat) (k : Tree Value → β) : List S → Tree Value → β
  | [], T => k T
  | s :: l, T => putK d s.dst undef T fun T => skipK d k l T

noncomputable def putT (d : Nat) (dst : Option Nat) (v : Value) (T : Tree Value) : Tree Value :=
  match dst with
  | none => T
  | some t => ts d T t v
theorem putK_T {β : Type} (d : Nat) (dst : Option Nat) (v : Value) (T : Tree Value) (k : Tree Value → β) : putK d dst v T k = k (putT d dst v T) := by
  cases dst with
  | none => rfl
  | some t => exact tsK_eq d T t v k
theorem putT_wf {d : Nat} {dst : Option Nat} {v : Value} {T : Tree Value} (h : WF d T) : WF d (putT d dst v T) := by
  cases dst with
  | none => exact h
  | some t => exact WF_ts d T t v h
theorem wdec_putT {d : Nat} {T : Tree Value} {g : Option (Nat × Bool)} {s : S} {l : List S} {v : Value} (hw : WF d T) (hok : okL d g (s :: l) = true) : wdec g (putT d s.dst v T) = wdec g T := by
  cases g with
  | none => rfl
  | some tw =>
    obtain ⟨t, want⟩ := tw
    cases hd : s.dst with
    | none => rfl
    | some q =>
      simp only [okL, hd, Bool.and_eq_true, Nat.blt_eq] at hok
      exact wdec_put hw hok.1.2.1.1 hok.1.2.1.2 (by rintro rfl; have := hok.1.2.2; simp at this)
theorem okL_tail {d : Nat} {g : Option (Nat × Bool)} {s : S} {l : List S} (h : okL d g (s :: l) = true) : okL d g l = true := by
  simp only [okL, Bool.and_eq_true] at h; exact h.2
theorem okL_free {d : Nat} {g : Option (Nat × Bool)} {s : S} {l : List S} (h : okL d g (s :: l) = true) : s.guard = none := by
  simp only [okL, Bool.and_eq_true] at h
  cases hg : s.guard with
  | none => rfl
  | some _ => rw [hg] at h; cases h.1.1

section
variable {β : Type} {P : Program} {d : Nat} {call : CallT β} {z : β}
theorem opsK_cons (k : Tree Value → Heap → Nat → β) (s : S) (l : List S) (T : Tree Value) (H : Heap) (nx : Nat) : opsK P d call z k (s :: l) T H nx = stepS P d call s T H nx z (opsK P d call z k l) := rfl
theorem stepS_eq (g : Option (Nat × Bool)) (dst : Option Nat) (i : I) (T : Tree Value) (H : Heap) (nx : Nat) (k : Tree Value → Heap → Nat → β) :
    stepS P d call ⟨g, dst, i⟩ T H nx z k = wantK g T z (runI i P d dst call T H nx z k) (putK d dst undef T fun T => k T H nx) := rfl
theorem opsK_append (k : Tree Value → Heap → Nat → β) (l2 : List S) : ∀ (l1 : List S), opsK P d call z k (l1 ++ l2) = opsK P d call z (opsK P d call z k l2) l1
  | [] => rfl
  | s :: l1 => by
    funext T H nx
    rw [List.cons_append, opsK_cons, opsK_cons, opsK_append k l2 l1]
theorem wdec_none (T : Tree Value) : wdec none T = some true := rfl
/-- A step's continuation may be exchanged where it does the same behind every put. -/
theorem runI_congr (i : I) (dst : Option Nat) (T : Tree Value) (H : Heap) (nx : Nat) (k k' : Tree Value → Heap → Nat → β) (h : ∀ v H nx, k (putT d dst v T) H nx = k' (putT d dst v T) H nx) :
    runI i P d dst call T H nx z k = runI i P d dst call T H nx z k' := by
  cases i with
  | p i =>
    show evP P i T z (fun v => putK d dst v T fun T => k T H nx) = evP P i T z (fun v => putK d dst v T fun T => k' T H nx)
    congr 1; funext v; rw [putK_T, putK_T, h]
  | r i =>
    show evR P i T H z (fun v => putK d dst v T fun T => k T H nx) = evR P i T H z (fun v => putK d dst v T fun T => k' T H nx)
    congr 1; funext v; rw [putK_T, putK_T, h]
  | a i =>
    show evA i T z (newK d dst T H nx k) = evA i T z (newK d dst T H nx k')
    congr 1; funext b y; unfold newK; rw [hsK_eq, hsK_eq, forceN_eq, forceN_eq, force1_eq, force1_eq, putK_T, putK_T, h]
  | e i =>
    show evE i call T H nx z (fun v H nx => putK d dst v T fun T => k T H nx) = evE i call T H nx z (fun v H nx => putK d dst v T fun T => k' T H nx)
    congr 1; funext v H nx; rw [putK_T, putK_T, h]
theorem ops_yes (g : Option (Nat × Bool)) (k : Tree Value → Heap → Nat → β) : ∀ (l : List S) (T : Tree Value) (H : Heap) (nx : Nat), WF d T → okL d g l = true → wdec g T = some true →
    opsK P d call z k (l.map (guardS g)) T H nx = opsK P d call z k l T H nx
  | [], T, H, nx, _, _, _ => rfl
  | s :: l, T, H, nx, hw, hok, hd => by
    obtain ⟨g0, dst, i⟩ := s
    have hg0 : g0 = none := okL_free hok
    subst hg0
    rw [List.map_cons, opsK_cons, opsK_cons]
    show stepS P d call ⟨g, dst, i⟩ T H nx z _ = _
    rw [stepS_eq, stepS_eq, wantK_dec, wantK_dec none, hd, wdec_none]
    exact runI_congr i dst T H nx _ _ fun v H nx => ops_yes g k l _ H nx (putT_wf hw) (okL_tail hok) ((wdec_putT hw hok).trans hd)
theorem ops_no (g : Option (Nat × Bool)) (k : Tree Value → Heap → Nat → β) : ∀ (l : List S) (T : Tree Value) (H : Heap) (nx : Nat), WF d T → okL d g l = true → wdec g T = some false →
    opsK P d call z k (l.map (guardS g)) T H nx = skipK d (fun T => k T H nx) l T
  | [], T, H, nx, _, _, _ => rfl
  | s :: l, T, H, nx, hw, hok, hd => by
    obtain ⟨g0, dst, i⟩ := s
    rw [List.map_cons, opsK_cons]
    show stepS P d call ⟨g, dst, i⟩ T H nx z _ = _
    rw [stepS_eq, wantK_dec, hd]
    simp only [skipK]
    rw [putK_T, putK_T]
    exact ops_no g k l _ H nx (putT_wf hw) (okL_tail hok) ((wdec_putT (s := ⟨g0, dst, i⟩) hw hok).trans hd)
/-- The skipped slots leave the store well formed, so what comes behind may be exchanged. -/
theorem skipK_congr {k k' : Tree Value → β} (h : ∀ T, WF d T → k T = k' T) : ∀ (l : List S) (T : Tree Value), WF d T → skipK d k l T = skipK d k' l T
  | [], T, hw => h T hw
  | s :: l, T, hw => by simp only [skipK]; rw [putK_T, putK_T]; exact skipK_congr h l _ (putT_wf hw)
theorem opsK_congr {k k' : Tree Value → Heap → Nat → β} (h : ∀ T H nx, WF d T → k T H nx = k' T H nx) : ∀ (l : List S) (T : Tree Value) (H : Heap) (nx : Nat), WF d T → opsK P d call z k l T H nx = opsK P d call z k' l T H nx
  | [], T, H, nx, hw => h T H nx hw
  | s :: l, T, H, nx, hw => by
    obtain ⟨g, dst, i⟩ := s
    rw [opsK_cons, opsK_cons, stepS_eq, stepS_eq, putK_T, putK_T]
    rw [runI_congr i dst T H nx _ _ fun v H nx => opsK_congr h l (putT d dst v T) H nx (putT_wf hw), opsK_congr h l _ H nx (putT_wf hw)]
end
/-- The guard asked, its slot told from then on. -/
noncomputable def askK (d : Nat) (g : Option (Nat × Bool)) (T : Tree Value) (yes no : Tree Value → Prop) : Prop :=
  match g with
  | none => False
  | some (t, want) => tgK T t False fun v => match v with
    | .bool b => ifK (cond b want (!want)) (tsK d T t (.bool want) yes) (tsK d T t (.bool (!want)) no)
    | _ => False
theorem ask_dec {d : Nat} {g : Option (Nat × Bool)} {T : Tree Value} {yes no : Tree Value → Prop} (hw : WF d T) (hg : okT d g = true) (h : askK d g T yes no) : (wdec g T = some true ∧ yes T) ∨ (wdec g T = some false ∧ no T) := by
  unfold askK at h
  unfold wdec wantK
  cases g with
  | none => exact h.elim
  | some tw =>
    obtain ⟨t, want⟩ := tw
    have ht : t < 2 ^ d := by simpa [okT] using hg
    dsimp only at h ⊢
    rw [tgK_eq] at h ⊢
    cases hv : tg T t with
    | none => rw [hv] at h; exact h.elim
    | some v =>
      rw [hv] at h
      dsimp only [Option.elim_some] at h ⊢
      split at h
      · rename_i b
        dsimp only
        rw [ifK_eq, tsK_eq, tsK_eq] at h
        rw [ifK_eq]
        cases hb : cond b want (!want) with
        | true =>
          have : b = want := by cases b <;> cases want <;> first | rfl | cases hb
          subst this
          rw [hb, if_pos rfl, ts_same d T t _ hw ht hv] at h
          exact .inl ⟨rfl, h⟩
        | false =>
          have : b = (!want) := by cases b <;> cases want <;> first | rfl | cases hb
          subst this
          rw [hb, if_neg (by simp), ts_same d T t _ hw ht hv] at h
          exact .inr ⟨rfl, h⟩
      · exact h.elim

noncomputable def gopsK (P : Program) (d : Nat) (k : Tree Value → Heap → Nat → Prop) : List G → HT → Tree Value → Heap → Nat → Prop
  | [], _, T, H, nx => k T H nx
  | (g, l) :: gs, ht, T, H, nx => match ht with
    | .nil => False
    | .one r => wantK g T False (opsK P d (callP P) False (gopsK P d k gs r) l T H nx) (skipK d (fun T => gopsK P d k gs r T H nx) l T)
    | .tst y n => askK d g T (fun T => opsK P d (callP P) False (gopsK P d k gs y) l T H nx) (fun T => skipK d (fun T => gopsK P d k gs n T H nx) l T)

section
variable {P : Program} {d n : Nat} {ops : List Oper}
theorem compSs_split {l2 : List S} : ∀ {l1 : List S} {suf : List Oper}, compSs P n ops suf = some (l1 ++ l2) → ∃ s1 s2, suf = s1 ++ s2 ∧ compSs P n ops s1 = some l1 ∧ compSs P n ops s2 = some l2
  | [], suf, h => ⟨[], suf, rfl, rfl, h⟩
  | s :: l1, [], h => by simp [compSs] at h
  | s :: l1, o :: suf, h => by
    simp only [compSs] at h
    cases hs : compS P n ops o with
    | none => simp [hs] at h
    | some s' => cases hl : compSs P n ops suf with
      | none => simp [hs, hl] at h
      | some l' =>
        simp [hs, hl] at h
        obtain ⟨rfl, rfl⟩ := h
        obtain ⟨s1, s2, h1, h2, h3⟩ := compSs_split hl
        exact ⟨o :: s1, s2, by rw [h1]; rfl, by simp [compSs, hs, h2], h3⟩
theorem dsts_guard (g : Option (Nat × Bool)) : ∀ (l : List S), dsts (l.map (guardS g)) = dsts l
  | [] => rfl
  | s :: l => by simp [dsts, dsts_guard g l, guardS]
def dstsG : List G → List Nat
  | [] => []
  | (_, l) :: gs => dsts l ++ dstsG gs
/-- One group, whichever way its guard goes. -/
theorem group_way {g : Option (Nat × Bool)} {l : List S} {T : Tree Value} {H : Heap} {nx : Nat} {k : Tree Value → Heap → Nat → Prop} (hw : WF d T) (hok : okL d g l = true)
    (h : (wdec g T = some true ∧ opsK P d (callP P) False k l T H nx) ∨ (wdec g T = some false ∧ skipK d (fun T => k T H nx) l T)) : opsK P d (callP P) False k (l.map (guardS g)) T H nx := by
  rcases h with ⟨hd, h⟩ | ⟨hd, h⟩
  · rw [ops_yes g k l T H nx hw hok hd]; exact h
  · rw [ops_no g k l T H nx hw hok hd]; exact h
theorem gops_sound (hn : n ≤ 2 ^ d) (k : Tree Value → Heap → Nat → Prop) : ∀ (gs : List G) (ht : HT) (suf : List Oper) (i : Nat), compSs P n ops suf = some (eraseG gs) → (∀ j, j < suf.length → suf[j]? = ops[i + j]?) → okG d gs = true → ∀ (T : Tree Value) (H : Heap) (nx : Nat), WF d T →
    gopsK P d k gs ht T H nx → ∃ T' H' nx', k T' H' nx' ∧ WF d T' ∧ Agr n (dstsG gs) T T' ∧
      ∀ (F : FM) (a : Act) (w : World) (Q : Exit → Act → World → Prop), TR d F T n a.tmps → HR F H nx w →
        (∀ F' a' w', TR d F' T' n a'.tmps → Stp F H nx w F' H' nx' w' → a'.defers = a.defers → Q .normal a' w') → wpOps P ops.toArray Q (List.range' i suf.length) a w
  | [], ht, suf, i, hc, hsuf, hok, T, H, nx, hw, h => by
    cases suf with
    | nil => exact ⟨T, H, nx, h, hw, Agr.refl _ _ _, fun F a w Q ht hr hk => hk F a w ht (Stp.refl hr) rfl⟩
    | cons o suf =>
      simp only [eraseG, compSs] at hc
      split at hc <;> simp at hc
  | (g, l) :: gs, ht, suf, i, hc, hsuf, hok, T, H, nx, hw, h => by
    simp only [okG, Bool.and_eq_true] at hok
    obtain ⟨s1, s2, rfl, hc1, hc2⟩ := compSs_split hc
    -- the group's way
    have way : ∃ ht', opsK P d (callP P) False (gopsK P d k gs ht') (l.map (guardS g)) T H nx := by
      simp only [gopsK] at h
      cases ht with
      | nil => exact h.elim
      | one r =>
        dsimp only at h
        rw [wantK_dec] at h
        refine ⟨r, group_way hw hok.1.1.1 ?_⟩
        cases hd : wdec g T with
        | none => rw [hd] at h; exact h.elim
        | some b =>
          rw [hd] at h
          cases b with
          | true => exact .inl ⟨rfl, h⟩
          | false => exact .inr ⟨rfl, h⟩
      | tst y m =>
        dsimp only at h
        rcases ask_dec hw hok.2 h with ⟨hd, h⟩ | ⟨hd, h⟩
        · exact ⟨y, group_way hw hok.1.1.1 (.inl ⟨hd, h⟩)⟩
        · exact ⟨m, group_way hw hok.1.1.1 (.inr ⟨hd, h⟩)⟩
    obtain ⟨ht', h'⟩ := way
    have hs1 : ∀ j, j < s1.length → s1[j]? = ops[i + j]? := fun j hj => by
      have := hsuf j (by simp; omega)
      rw [List.getElem?_append_left hj] at this; exact this
    have hs2 : ∀ j, j < s2.length → s2[j]? = ops[i + s1.length + j]? := fun j hj => by
      have := hsuf (s1.length + j) (by simp; omega)
      rw [List.getElem?_append_right (by omega)] at this
      simpa [Nat.add_assoc] using this
    rcases ops_seg (d := d) hn (callP_ok P) False (gopsK P d k gs ht') s1 _ i hc1 hs1 T H nx with h1 | ⟨T1, H1, nx1, h1, hw1, hp1⟩
    · rw [h1] at h'; exact h'.elim
    · rw [h1] at h'
      obtain ⟨T2, H2, nx2, h2, hw2, hg2, hp2⟩ := gops_sound hn k gs ht' s2 (i + s1.length) hc2 hs2 hok.1.2 T1 H1 nx1 (hw1 hw).1 h'
      refine ⟨T2, H2, nx2, h2, hw2, ?_, fun F a w Q ht hr hk => ?_⟩
      · have := (hw1 hw).2
        rw [dsts_guard] at this
        exact this.trans hg2
      · have e : List.range' i (s1 ++ s2).length = List.range' i s1.length ++ List.range' (i + s1.length) s2.length := by
          rw [List.length_append, ← List.range'_append]; simp
        rw [e]
        refine hp1 F a w Q _ ht hr fun F' a' w' ht' hst hdf => ?_
        exact hp2 F' a' w' Q ht' hst.hr fun F2 a2 w2 ht2 hst2 hdf2 => hk F2 a2 w2 ht2 (hst.trans hst2) (hdf2.trans hdf)
end
end Go.Clo

namespace Go.Clo

abbrev DK (β : Type) := Tree Value → Heap → Nat → List Heap → List Nat → List (Nat × Blk) → List Rd → β
section
variable {β : Type} {P : Program} {d : Nat} {call : CallT β} {z : β} {ms : List Nat} {N : Nat}
/-- One operation of a region, behind its guard. -/
noncomputable def drawI (P : Program) (d : Nat) (call : CallT β) (ms : List Nat) (N : Nat) (z : β) (k : DK β) (dst : Option Nat) (op : I) (i : Nat) : DK β := fun T H nx Ms es as rs =>
  match op with
     | .p op => evP P op T z fun v => putK d dst v T fun T => k T H nx Ms es as rs
     | .r op => seesK ms N es i H (fun h => evR P op T h z fun v => putK d dst v T fun T' => k T' H nx Ms es as (⟨i, op, T, v⟩ :: rs)) as
     | .a op => evA op T z fun b y => forceN (N + i) fun q => forceV (y.val q) fun v => putK d dst v T fun T => k T H nx Ms es ((i, b) :: as) rs
     | .e op => cond (es.all fun e => mBit ms i e)
       (seesK ms N es i H (fun h => evE op call T h nx z fun v H' nx => putK d dst v T fun T => k T H' nx (H :: Ms) (i :: es) as rs) as) z
theorem drawK_step (k : DK β) (g : Option (Nat × Bool)) (dst : Option Nat) (op : I) (l : List S) (i : Nat) (T : Tree Value) (H : Heap) (nx : Nat) (Ms : List Heap) (es : List Nat) (as : List (Nat × Blk)) (rs : List Rd) :
    drawK P d call ms N z k (⟨g, dst, op⟩ :: l) i T H nx Ms es as rs = wantK g T z (drawI P d call ms N z (drawK P d call ms N z k l (i + 1)) dst op i T H nx Ms es as rs)
      (putK d dst undef T fun T => drawK P d call ms N z k l (i + 1) T H nx Ms es as rs) := rfl
theorem drawI_congr (k k' : DK β) (dst : Option Nat) (op : I) (i : Nat) (T : Tree Value) (H : Heap) (nx : Nat) (Ms : List Heap) (es : List Nat) (as : List (Nat × Blk)) (rs : List Rd)
    (h : ∀ v H nx Ms es as rs, k (putT d dst v T) H nx Ms es as rs = k' (putT d dst v T) H nx Ms es as rs) : drawI P d call ms N z k dst op i T H nx Ms es as rs = drawI P d call ms N z k' dst op i T H nx Ms es as rs := by
  unfold drawI
  cases op with
  | p op => dsimp only; congr 1; funext v; rw [putK_T, putK_T, h]
  | r op => dsimp only; congr 1; funext hh; congr 1; funext v; rw [putK_T, putK_T, h]
  | a op => dsimp only; congr 1; funext b y; rw [forceN_eq, forceN_eq, forceV_eq, forceV_eq, putK_T, putK_T, h]
  | e op => dsimp only; congr 1; congr 1; funext hh; congr 1; funext v H' nx'; rw [putK_T, putK_T, h]
theorem drawK_congr {k k' : DK β} (h : ∀ T H nx Ms es as rs, WF d T → k T H nx Ms es as rs = k' T H nx Ms es as rs) : ∀ (l : List S) (i : Nat) (T : Tree Value) (H : Heap) (nx : Nat) (Ms : List Heap) (es : List Nat) (as : List (Nat × Blk)) (rs : List Rd), WF d T →
    drawK P d call ms N z k l i T H nx Ms es as rs = drawK P d call ms N z k' l i T H nx Ms es as rs
  | [], i, T, H, nx, Ms, es, as, rs, hw => h T H nx Ms es as rs hw
  | s :: l, i, T, H, nx, Ms, es, as, rs, hw => by
    obtain ⟨g, dst, op⟩ := s
    rw [drawK_step, drawK_step, putK_T, putK_T]
    rw [drawI_congr _ _ dst op i T H nx Ms es as rs fun v H nx Ms es as rs => drawK_congr h l (i + 1) (putT d dst v T) H nx Ms es as rs (putT_wf hw), drawK_congr h l (i + 1) _ H nx Ms es as rs (putT_wf hw)]
theorem drawK_append (k : DK β) (l2 : List S) : ∀ (l1 : List S) (i : Nat) (T : Tree Value) (H : Heap) (nx : Nat) (Ms : List Heap) (es : List Nat) (as : List (Nat × Blk)) (rs : List Rd), WF d T →
    drawK P d call ms N z k (l1 ++ l2) i T H nx Ms es as rs = drawK P d call ms N z (fun T H nx Ms es as rs => drawK P d call ms N z k l2 (i + l1.length) T H nx Ms es as rs) l1 i T H nx Ms es as rs
  | [], i, T, H, nx, Ms, es, as, rs, _ => rfl
  | s :: l1, i, T, H, nx, Ms, es, as, rs, hw => by
    obtain ⟨g, dst, op⟩ := s
    rw [List.cons_append, drawK_step, drawK_step, putK_T, putK_T]
    have e : i + (⟨g, dst, op⟩ :: l1 : List S).length = i + 1 + l1.length := by simp; omega
    rw [e]
    rw [drawI_congr _ _ dst op i T H nx Ms es as rs fun v H nx Ms es as rs => drawK_append k l2 l1 (i + 1) (putT d dst v T) H nx Ms es as rs (putT_wf hw), drawK_append k l2 l1 (i + 1) _ H nx Ms es as rs (putT_wf hw)]
theorem draw_yes (g : Option (Nat × Bool)) (k : DK β) : ∀ (l : List S) (i : Nat) (T : Tree Value) (H : Heap) (nx : Nat) (Ms : List Heap) (es : List Nat) (as : List (Nat × Blk)) (rs : List Rd), WF d T → okL d g l = true → wdec g T = some true →
    drawK P d call ms N z k (l.map (guardS g)) i T H nx Ms es as rs = drawK P d call ms N z k l i T H nx Ms es as rs
  | [], i, T, H, nx, Ms, es, as, rs, _, _, _ => rfl
  | s :: l, i, T, H, nx, Ms, es, as, rs, hw, hok, hd => by
    obtain ⟨g0, dst, op⟩ := s
    have hg0 : g0 = none := okL_free hok
    subst hg0
    show drawK P d call ms N z k (⟨g, dst, op⟩ :: l.map (guardS g)) i T H nx Ms es as rs = _
    rw [drawK_step, drawK_step, wantK_dec, wantK_dec none, hd, wdec_none]
    exact drawI_congr _ _ dst op i T H nx Ms es as rs fun v H nx Ms es as rs => draw_yes g k l (i + 1) _ H nx Ms es as rs (putT_wf hw) (okL_tail hok) ((wdec_putT hw hok).trans hd)
theorem draw_no (g : Option (Nat × Bool)) (k : DK β) : ∀ (l : List S) (i : Nat) (T : Tree Value) (H : Heap) (nx : Nat) (Ms : List Heap) (es : List Nat) (as : List (Nat × Blk)) (rs : List Rd), WF d T → okL d g l = true → wdec g T = some false →
    drawK P d call ms N z k (l.map (guardS g)) i T H nx Ms es as rs = skipK d (fun T => k T H nx Ms es as rs) l T
  | [], i, T, H, nx, Ms, es, as, rs, _, _, _ => rfl
  | s :: l, i, T, H, nx, Ms, es, as, rs, hw, hok, hd => by
    obtain ⟨g0, dst, op⟩ := s
    show drawK P d call ms N z k (⟨g, dst, op⟩ :: l.map (guardS g)) i T H nx Ms es as rs = _
    rw [drawK_step, wantK_dec, hd]
    simp only [skipK]
    rw [putK_T, putK_T]
    exact draw_no g k l (i + 1) _ H nx Ms es as rs (putT_wf hw) (okL_tail hok) ((wdec_putT (s := ⟨g0, dst, op⟩) hw hok).trans hd)
end
noncomputable def gdrawK (P : Program) (d : Nat) (ms : List Nat) (N : Nat) (k : DK Prop) : List G → HT → Nat → DK Prop
  | [], _, _, T, H, nx, Ms, es, as, rs => k T H nx Ms es as rs
  | (g, l) :: gs, ht, i, T, H, nx, Ms, es, as, rs => match ht with
    | .nil => False
    | .one r => wantK g T False
      (drawK P d (callP P) ms N False (fun T H nx Ms es as rs => gdrawK P d ms N k gs r (i + l.length) T H nx Ms es as rs) l i T H nx Ms es as rs)
      (skipK d (fun T => gdrawK P d ms N k gs r (i + l.length) T H nx Ms es as rs) l T)
    | .tst y n => askK d g T
      (fun T => drawK P d (callP P) ms N False (fun T H nx Ms es as rs => gdrawK P d ms N k gs y (i + l.length) T H nx Ms es as rs) l i T H nx Ms es as rs)
      (fun T => skipK d (fun T => gdrawK P d ms N k gs n (i + l.length) T H nx Ms es as rs) l T)
theorem draw_way {P : Program} {d : Nat} {ms : List Nat} {N : Nat} {g : Option (Nat × Bool)} {l : List S} {i : Nat} {T : Tree Value} {H : Heap} {nx : Nat} {Ms : List Heap} {es : List Nat} {as : List (Nat × Blk)} {rs : List Rd} {k : DK Prop} (hw : WF d T) (hok : okL d g l = true)
    (h : (wdec g T = some true ∧ drawK P d (callP P) ms N False k l i T H nx Ms es as rs) ∨ (wdec g T = some false ∧ skipK d (fun T => k T H nx Ms es as rs) l T)) : drawK P d (callP P) ms N False k (l.map (guardS g)) i T H nx Ms es as rs := by
  rcases h with ⟨hd, h⟩ | ⟨hd, h⟩
  · rw [draw_yes g k l i T H nx Ms es as rs hw hok hd]; exact h
  · rw [draw_no g k l i T H nx Ms es as rs hw hok hd]; exact h
theorem gdraw_run {P : Program} {d n : Nat} {ops : List Oper} {N : Nat} {H0 : Heap} {n0 : Nat} {T0 : Tree Value} (hn : n ≤ 2 ^ d) (k : DK Prop) :
    ∀ (gs : List G) (ht : HT) (suf : List Oper) (rc : List Rec) (T : Tree Value), compSs P n ops suf = some (eraseG gs) → (∀ j, j < suf.length → suf[j]? = ops[rc.length + j]?) → okG d gs = true → AllF P d n ops N H0 n0 T0 rc → WF d T → (∀ t, t < n → (tg T t).getD undef = valR ops T0 rc t) →
    gdrawK P d (masks ops) N k gs ht rc.length T (hR H0 rc) (nR n0 rc) (MsR H0 rc) (esR rc) (asR rc) (rsR rc) →
    ∃ rc' T', rc'.length = rc.length + suf.length ∧ AllF P d n ops N H0 n0 T0 rc' ∧ WF d T' ∧ (∀ t, t < n → (tg T' t).getD undef = valR ops T0 rc' t) ∧
      k T' (hR H0 rc') (nR n0 rc') (MsR H0 rc') (esR rc') (asR rc') (rsR rc')
  | [], ht, suf, rc, T, hc, hsuf, hok, hall, hw, hT, h => by
    cases suf with
    | nil => exact ⟨rc, T, rfl, hall, hw, hT, h⟩
    | cons o suf =>
      simp only [eraseG, compSs] at hc
      split at hc <;> simp at hc
  | (g, l) :: gs, ht, suf, rc, T, hc, hsuf, hok, hall, hw, hT, h => by
    simp only [okG, Bool.and_eq_true] at hok
    obtain ⟨s1, s2, rfl, hc1, hc2⟩ := compSs_split hc
    have hl1 : l.length = s1.length := by have := compSs_len hc1; simpa using this
    have way : ∃ ht', drawK P d (callP P) (masks ops) N False (fun T H nx Ms es as rs => gdrawK P d (masks ops) N k gs ht' (rc.length + l.length) T H nx Ms es as rs) (l.map (guardS g)) rc.length T (hR H0 rc) (nR n0 rc) (MsR H0 rc) (esR rc) (asR rc) (rsR rc) := by
      simp only [gdrawK] at h
      cases ht with
      | nil => exact h.elim
      | one r =>
        dsimp only at h
        rw [wantK_dec] at h
        refine ⟨r, draw_way hw hok.1.1.1 ?_⟩
        cases hd : wdec g T with
        | none => rw [hd] at h; exact h.elim
        | some b =>
          rw [hd] at h
          cases b with
          | true => exact .inl ⟨rfl, h⟩
          | false => exact .inr ⟨rfl, h⟩
      | tst y m =>
        dsimp only at h
        rcases ask_dec hw hok.2 h with ⟨hd, h⟩ | ⟨hd, h⟩
        · exact ⟨y, draw_way hw hok.1.1.1 (.inl ⟨hd, h⟩)⟩
        · exact ⟨m, draw_way hw hok.1.1.1 (.inr ⟨hd, h⟩)⟩
    obtain ⟨ht', h'⟩ := way
    have hs1 : ∀ j, j < s1.length → s1[j]? = ops[rc.length + j]? := fun j hj => by
      have := hsuf j (by simp; omega)
      rw [List.getElem?_append_left hj] at this; exact this
    rcases draw_run (N := N) (H0 := H0) (n0 := n0) (T0 := T0) (callP_ok P) hn False _ s1 _ rc T hc1 hs1 hall hw hT with h1 | ⟨rc1, T1, hlen, hall1, hw1, hT1, h1⟩
    · rw [h1] at h'; exact h'.elim
    · rw [h1] at h'
      have hs2 : ∀ j, j < s2.length → s2[j]? = ops[rc1.length + j]? := fun j hj => by
        have := hsuf (s1.length + j) (by simp; omega)
        rw [List.getElem?_append_right (by omega)] at this
        rw [hlen]
        simpa [Nat.add_assoc] using this
      rw [hl1, ← hlen] at h'
      obtain ⟨rc2, T2, g1, g2, g3, g4, g5⟩ := gdraw_run hn k gs ht' s2 rc1 T1 hc2 hs2 hok.1.2 hall1 hw1 hT1 h'
      exact ⟨rc2, T2, by simp; omega, g2, g3, g4, g5⟩

/-! Code with its joins marked. -/
inductive D where
  | skip
  | ops (gs : List G) (ht : HT)
  | draw (ms : List Nat) (gs : List G) (ht : HT)
  | seq (a b : D)
  | join (ws ds : List Nat) (a b : D)
  | cond (x : X) (t e : D)
  | block (id : Nat) (c : D)
  | loop (ws ds : List Nat) (c : D)
  | exit (id : Nat)
  | ret
def D.erase : D → C
  | .skip => .skip
  | .ops gs _ => .ops (eraseG gs)
  | .draw ms gs _ => .draw ms (eraseG gs)
  | .seq a b => .seq a.erase b.erase
  | .join _ _ a b => .seq a.erase b.erase
  | .cond x t e => .cond x t.erase e.erase
  | .block id c => .block id c.erase
  | .loop _ _ c => .loop c.erase
  | .exit id => .exit id
  | .ret => .ret
def D.writes : D → List Nat
  | .ops gs _ => dstsG gs
  | .draw _ gs _ => dstsG gs
  | .seq a b => a.writes ++ b.writes
  | .join ws ds a b => a.writes ++ ((ws ++ ds) ++ b.writes)
  | .cond _ t e => t.writes ++ e.writes
  | .block _ c => c.writes
  | .loop ws ds c => (ws ++ ds) ++ c.writes
  | _ => []
def subL (a b : List Nat) : Bool := a.all fun x => b.any fun y => Nat.beq x y
def allLt (n : Nat) (l : List Nat) : Bool := l.all fun x => Nat.blt x n
def nodupB : List Nat → Bool
  | [] => true
  | x :: l => !(l.any fun y => Nat.beq x y) && nodupB l
def D.ok (n d : Nat) : D → Bool
  | .ops gs _ => okG d gs
  | .draw _ gs _ => okG d gs
  | .seq a b => a.ok n d && b.ok n d
  | .join ws ds a b => subL a.writes (ws ++ ds) && allLt n (ws ++ ds) && nodupB ws && a.ok n d && b.ok n d
  | .cond _ t e => t.ok n d && e.ok n d
  | .block _ c => c.ok n d
  | .loop ws ds c => subL c.writes (ws ++ ds) && allLt n (ws ++ ds) && nodupB ws && c.ok n d
  | _ => true

/-! Slots at a join. -/
abbrev JK := List Value → Heap → Nat → Prop
noncomputable def getsK {β : Type} (T : Tree Value) (ws : List Nat) : (List Value → β) → β :=
  @List.rec Nat (fun _ => (List Value → β) → β) (fun k => k []) (fun w _ ih k => tgK T w (ih fun vs => k (undef :: vs)) fun v => ih fun vs => k (v :: vs)) ws
noncomputable def setsK {β : Type} (d : Nat) (L : List Value) : List Nat → Nat → Tree Value → (Tree Value → β) → β
  | [], _, T, k => k T
  | w :: ws, i, T, k => tsK d T w (L.getD i undef) fun T => setsK d L ws (i + 1) T k
noncomputable def poisK {β : Type} (d : Nat) : List Nat → Tree Value → (Tree Value → β) → β
  | [], T, k => k T
  | w :: ws, T, k => tsK d T w poison fun T => poisK d ws T k

def wJoin (body : JK → Prop) (rest : JK) : Prop := body rest
noncomputable def wIter (F : JK → JK) (m : Nat) : JK := @Nat.rec (fun _ => JK) (fun _ _ _ => False) (fun _ ih => F ih) m
def wLoop (F : JK → JK) (L : List Value) (H : Heap) (nx : Nat) : Prop := ∃ m, wIter F m L H nx
def wIf (v : Value) (t e : Prop) : Prop :=
  match v with
  | .bool b => ifK b t e
  | _ => False

noncomputable def wD (P : Program) (d : Nat) (c : D) : Tree Value → Heap → Nat → K Prop → (Nat → K Prop) → K Prop → Prop :=
  match c with
  | .skip => fun T H nx k _ _ => k T H nx
  | .ops gs ht => fun T H nx k _ _ => gopsK P d k gs ht T H nx
  | .draw ms gs ht => fun T H nx k _ _ => forceN (nx + (eraseG gs).length) fun nx' =>
      gdrawK P d ms nx (fun T H n Ms es as rs => chkP P ms nx as rs es Ms H (mergeK ms nx es H (fun H => k T H n) as) False) gs ht 0 T H nx' [] [] [] []
  | .seq a b => fun T H nx k x r => wD P d a T H nx (fun T H nx => wD P d b T H nx k x r) x r
  | .join ws ds a b => fun T H nx k x r => wJoin (fun j => wD P d a T H nx (fun T H nx => getsK T ws fun L => j L H nx) x r)
      (fun L H nx => poisK d ds T fun T => setsK d L ws 0 T fun T => wD P d b T H nx k x r)
  | .cond c t e => fun T H nx k x r => evK T c fun v => wIf v (wD P d t T H nx k x r) (wD P d e T H nx k x r)
  | .block id c => fun T H nx k x r => wD P d c T H nx k (fun id' T H nx => cond (Nat.beq id' id) (k T H nx) (x id' T H nx)) r
  | .loop ws ds c => fun T H nx _ x r => getsK T ws fun L => wLoop (fun ih L H nx => poisK d ds T fun T => setsK d L ws 0 T fun T => wD P d c T H nx (fun T H nx => getsK T ws fun L => ih L H nx) x r) L H nx
  | .exit id => fun T H nx _ x _ => x id T H nx
  | .ret => fun T H nx _ _ r => r T H nx

noncomputable def slots (T : Tree Value) (ws : List Nat) : List Value := ws.map fun w => (tg T w).getD undef
theorem getsK_eq {β : Type} (T : Tree Value) : ∀ (ws : List Nat) (k : List Value → β), getsK T ws k = k (slots T ws)
  | [], k => rfl
  | w :: ws, k => by
    show tgK T w (getsK T ws fun vs => k (undef :: vs)) (fun v => getsK T ws fun vs => k (v :: vs)) = _
    rw [tgK_eq]
    cases h : tg T w with
    | none => simp only [Option.elim_none]; rw [getsK_eq T ws]; simp [slots, h]
    | some v => simp only [Option.elim_some]; rw [getsK_eq T ws]; simp [slots, h]
noncomputable def setT (d : Nat) (L : List Value) : List Nat → Nat → Tree Value → Tree Value
  | [], _, T => T
  | w :: ws, i, T => setT d L ws (i + 1) (ts d T w (L.getD i undef))
theorem setsK_eq {β : Type} (d : Nat) (L : List Value) : ∀ (ws : List Nat) (i : Nat) (T : Tree Value) (k : Tree Value → β), setsK d L ws i T k = k (setT d L ws i T)
  | [], _, _, _ => rfl
  | w :: ws, i, T, k => by simp only [setsK, setT]; rw [tsK_eq]; exact setsK_eq d L ws _ _ k
noncomputable def poisT (d : Nat) : List Nat → Tree Value → Tree Value
  | [], T => T
  | w :: ws, T => poisT d ws (ts d T w poison)
theorem poisK_eq {β : Type} (d : Nat) : ∀ (ws : List Nat) (T : Tree Value) (k : Tree Value → β), poisK d ws T k = k (poisT d ws T)
  | [], _, _ => rfl
  | w :: ws, T, k => by simp only [poisK, poisT]; rw [tsK_eq]; exact poisK_eq d ws _ k
theorem setT_wf {d : Nat} {L : List Value} : ∀ {ws : List Nat} {i : Nat} {T : Tree Value}, WF d T → WF d (setT d L ws i T)
  | [], _, _, h => h
  | w :: ws, i, T, h => setT_wf (ws := ws) (WF_ts d T w _ h)
theorem poisT_wf {d : Nat} : ∀ {ws : List Nat} {T : Tree Value}, WF d T → WF d (poisT d ws T)
  | [], _, h => h
  | w :: ws, T, h => poisT_wf (ws := ws) (WF_ts d T w _ h)
theorem poisT_get {d n : Nat} (hn : n ≤ 2 ^ d) : ∀ {ws : List Nat} {T : Tree Value}, WF d T → (∀ w ∈ ws, w < n) → ∀ j, j < n → (tg (poisT d ws T) j).getD undef = if j ∈ ws then poison else (tg T j).getD undef
  | [], T, _, _, j, _ => by simp [poisT]
  | w :: ws, T, hw, hl, j, hj => by
    have hwn : w < n := hl w (by simp)
    simp only [poisT]
    rw [poisT_get hn (WF_ts d T w _ hw) (fun x hx => hl x (by simp [hx])) j hj]
    by_cases h1 : j ∈ ws
    · simp [h1]
    · rw [if_neg h1, tg_ts d T w j _ hw (by omega) (by omega)]
      by_cases h2 : j = w
      · simp [h2]
      · simp [h1, h2]
theorem setT_get {d n : Nat} (hn : n ≤ 2 ^ d) {L : List Value} : ∀ {ws : List Nat} {i : Nat} {T : Tree Value}, WF d T → (∀ w ∈ ws, w < n) → nodupB ws = true → ∀ j, j < n →
    (j ∉ ws → (tg (setT d L ws i T) j).getD undef = (tg T j).getD undef) ∧ (∀ q, ws[q]? = some j → (tg (setT d L ws i T) j).getD undef = L.getD (i + q) undef)
  | [], i, T, _, _, _, j, _ => ⟨fun _ => rfl, fun q h => by simp at h⟩
  | w :: ws, i, T, hw, hl, hnd, j, hj => by
    have hwn : w < n := hl w (by simp)
    simp only [nodupB, Bool.and_eq_true] at hnd
    have hww : w ∉ ws := by
      intro h
      have := hnd.1
      simp at this
      exact this w h rfl
    obtain ⟨h1, h2⟩ := setT_get hn (L := L) (ws := ws) (i := i + 1) (WF_ts d T w (L.getD i undef) hw) (fun x hx => hl x (by simp [hx])) hnd.2 j hj
    simp only [setT]
    refine ⟨fun hne => ?_, fun q hq => ?_⟩
    · simp at hne
      rw [h1 hne.2, tg_ts d T w j _ hw (by omega) (by omega), if_neg hne.1]
    · cases q with
      | zero =>
        simp at hq; subst hq
        rw [h1 hww, tg_ts d T w w _ hw (by omega) (by omega), if_pos rfl]
        simp
      | succ q =>
        rw [h2 q (by simpa using hq)]
        congr 1; omega

/-- The store at a join stands for the slots as they are. -/
theorem TR.join {d n : Nat} {F : FM} {T T' : Tree Value} {tmps : Array Value} {ws ds W : List Nat} (hn : n ≤ 2 ^ d) (hwT : WF d T) (ht : TR d F T' n tmps) (ha : Agr n W T T') (hs : ∀ j ∈ W, j ∈ ws ++ ds) (hl : ∀ j ∈ ws ++ ds, j < n) (hnd : nodupB ws = true) :
    TR d F (setT d (slots T' ws) ws 0 (poisT d ds T)) n tmps := by
  have hlw : ∀ w ∈ ws, w < n := fun w h => hl w (List.mem_append_left _ h)
  have hld : ∀ w ∈ ds, w < n := fun w h => hl w (List.mem_append_right _ h)
  refine ⟨setT_wf (poisT_wf hwT), ht.size, ht.le, fun j hj => ?_⟩
  obtain ⟨h1, h2⟩ := setT_get hn (L := slots T' ws) (ws := ws) (i := 0) (poisT_wf (ws := ds) hwT) hlw hnd j hj
  by_cases hjw : j ∈ ws
  · obtain ⟨q, hq⟩ := List.getElem?_of_mem hjw
    rw [h2 q hq]
    have : (slots T' ws).getD (0 + q) undef = (tg T' j).getD undef := by simp [slots, hq]
    rw [this]; exact ht.get j hj
  · rw [h1 hjw, poisT_get hn hwT hld j hj]
    by_cases hjd : j ∈ ds
    · rw [if_pos hjd]; exact .any _
    · rw [if_neg hjd, ← ha j hj (fun h => (List.mem_append.1 (hs j h)).elim hjw hjd)]
      exact ht.get j hj
theorem agr_join {d n : Nat} {T : Tree Value} {L : List Value} {ws ds : List Nat} (hn : n ≤ 2 ^ d) (hwT : WF d T) (hl : ∀ j ∈ ws ++ ds, j < n) (hnd : nodupB ws = true) : Agr n (ws ++ ds) T (setT d L ws 0 (poisT d ds T)) := by
  intro j hj hne
  rw [List.mem_append] at hne
  obtain ⟨h1, _⟩ := setT_get hn (L := L) (ws := ws) (i := 0) (poisT_wf (ws := ds) hwT) (fun w h => hl w (List.mem_append_left _ h)) hnd j hj
  rw [h1 (fun h => hne (.inl h)), poisT_get hn hwT (fun w h => hl w (List.mem_append_right _ h)) j hj, if_neg (fun h => hne (.inr h))]
theorem subL_mem {a b : List Nat} (h : subL a b = true) : ∀ j ∈ a, j ∈ b := by
  intro j hj
  unfold subL at h
  have := List.all_eq_true.1 h j hj
  obtain ⟨y, hy, he⟩ := List.any_eq_true.1 this
  rw [Nat.eq_of_beq_eq_true he]; exact hy
theorem allLt_mem {n : Nat} {a : List Nat} (h : allLt n a = true) : ∀ j ∈ a, j < n := by
  intro j hj
  have := List.all_eq_true.1 h j hj
  simpa using this
end Go.Clo

namespace Go.Clo

theorem eraseG_dsts : ∀ (gs : List G), dsts (eraseG gs) = dstsG gs
  | [] => rfl
  | (g, l) :: gs => by
    have app : ∀ (a b : List S), dsts (a ++ b) = dsts a ++ dsts b := by
      intro a b
      induction a with
      | nil => rfl
      | cons s a ih => simp [dsts, ih]
    have mp : ∀ (a : List S), dsts (a.map (guardS g)) = dsts a := by
      intro a
      induction a with
      | nil => rfl
      | cons s a ih => simp [dsts, ih, guardS]
    simp only [eraseG, dstsG]
    rw [app, mp, eraseG_dsts gs]

section
variable {P : Program} {d n : Nat}
/-- What marked code comes to, where its claim is true. -/
theorem wD_sound (hm : P.follows .mixedOrders = true) (hn : n ≤ 2 ^ d) : ∀ (code : Code) (c : D), compC P n code = some c.erase → c.ok n d = true → ∀ (T : Tree Value) (H : Heap) (nx : Nat) (k : K Prop) (x : Nat → K Prop) (r : K Prop), WF d T → wD P d c T H nx k x r →
    ∃ o T' H' nx', Ox.go k x r o T' H' nx' ∧ WF d T' ∧ Agr n c.writes T T' ∧ CodeOK P d n code T H nx o T' H' nx' := by
  intro code
  induction code with
  | skip =>
    intro c hc hok T H nx k x r hw hk
    simp only [compC, Option.some.injEq] at hc
    cases c <;> simp [D.erase] at hc
    exact ⟨.n, T, H, nx, hk, hw, Agr.refl _ _ _, fun F a w Q ht hr hk => wp_skip (hk F a w ht (Stp.refl hr) rfl)⟩
  | label l =>
    intro c hc hok T H nx k x r hw hk
    simp only [compC, Option.some.injEq] at hc
    cases c <;> simp [D.erase] at hc
    exact ⟨.n, T, H, nx, hk, hw, Agr.refl _ _ _, fun F a w Q ht hr hk => wp_label (hk F a w ht (Stp.refl hr) rfl)⟩
  | exit id =>
    intro c hc hok T H nx k x r hw hk
    simp only [compC, Option.some.injEq] at hc
    cases c <;> simp [D.erase] at hc
    subst hc
    exact ⟨.x id, T, H, nx, hk, hw, Agr.refl _ _ _, fun F a w Q ht hr hk => wp_exit (hk F a w ht (Stp.refl hr) rfl)⟩
  | ret =>
    intro c hc hok T H nx k x r hw hk
    simp only [compC, Option.some.injEq] at hc
    cases c <;> simp [D.erase] at hc
    exact ⟨.r, T, H, nx, hk, hw, Agr.refl _ _ _, fun F a w Q ht hr hk => wp_ret (hk F a w ht (Stp.refl hr) rfl)⟩
  | goto l => intro c hc; simp [compC] at hc
  | refuse why => intro c hc; simp [compC] at hc
  | rangeFunc f ps as b _ _ => intro c hc; simp [compC] at hc
  | region id ops draw =>
    intro c hc hok T H nx k x r hw hk
    simp only [compC] at hc
    cases hl : compSs P n ops.toList ops.toList with
    | none => simp [hl] at hc
    | some l =>
      simp only [hl] at hc
      cases draw with
      | false =>
        simp only [Option.some.injEq] at hc
        cases c <;> simp [D.erase] at hc
        rename_i gs hint
        subst hc
        obtain ⟨T', H', nx', hk', hw', hg', hp⟩ := gops_sound (d := d) hn k gs hint ops.toList 0 hl (fun j _ => by simp) hok T H nx hw hk
        refine ⟨.n, T', H', nx', hk', hw', hg', fun F a w Q ht hr hk => wp_region ?_⟩
        have := hp F a w Q ht hr hk
        simpa [List.range_eq_range'] using this
      | true =>
        cases hs : slotsOkF (masks ops.toList) ops.toList with
        | false => simp [hs] at hc
        | true =>
          simp only [hs, cond_true, Option.some.injEq] at hc
          cases c <;> simp [D.erase] at hc
          rename_i ms gs hint
          obtain ⟨rfl, rfl⟩ := hc
          simp only [wD] at hk
          rw [forceN_eq, compSs_len hl] at hk
          obtain ⟨rc, T', h1, hall, hw', hT', h5⟩ := gdraw_run (N := nx) (H0 := H) (n0 := nx + ops.toList.length) (T0 := T) hn _ gs hint ops.toList [] T hl (by simp) hok trivial hw (fun t _ => rfl) hk
          rcases chkP_ok P d n ops.toList nx H rc (mergeK (masks ops.toList) nx (esR rc) (hR H rc) (fun H => k T' H (nR (nx + ops.toList.length) rc)) (asR rc)) False with h | ⟨h, hrs⟩
          · rw [h] at h5; exact h5.elim
          · rw [h, merge_eq] at h5
            refine ⟨.n, T', _, _, h5, hw', ?_, fun F a w Q ht hr hk => ?_⟩
            · have hv : Agr n (dsts (eraseG gs)) T T' := fun j hj hne => by rw [hT' j hj]; exact valR_other (compSs_dsts hl) hne
              rw [eraseG_dsts] at hv; exact hv
            · have := draw_core hm (slotsOkF_ok hs) hn (by simpa using h1) hall hw' hT' hrs id F a w Q ht hr hk
              simpa using this
  | seq a b iha ihb =>
    intro c hc hok T H nx k x r hw hk
    simp only [compC] at hc
    cases ha : compC P n a with
    | none => simp [ha] at hc
    | some ca => cases hb : compC P n b with
      | none => simp [ha, hb] at hc
      | some cb =>
        simp only [ha, hb, Option.some.injEq] at hc
        cases c <;> simp only [D.erase, C.seq.injEq, reduceCtorEq] at hc
        · rename_i da db
          obtain ⟨rfl, rfl⟩ := hc
          simp only [D.ok, Bool.and_eq_true] at hok
          obtain ⟨o, T1, H1, nx1, h, hw1, hg1, hok1⟩ := iha da ha hok.1 T H nx (fun T H nx => wD P d db T H nx k x r) x r hw hk
          cases o with
          | n =>
            obtain ⟨o2, T2, H2, nx2, h2, hw2, hg2, hok2⟩ := ihb db hb hok.2 T1 H1 nx1 k x r hw1 h
            refine ⟨o2, T2, H2, nx2, h2, hw2, hg1.trans hg2, fun F ac w Q ht hr hk => wp_seq (hok1 F ac w _ ht hr fun F' a' w' ht' hst hdf => ?_)⟩
            exact hok2 F' a' w' Q ht' hst.hr fun F2 a2 w2 ht2 hst2 hdf2 => hk F2 a2 w2 ht2 (hst.trans hst2) (hdf2.trans hdf)
          | x id => exact ⟨.x id, T1, H1, nx1, h, hw1, hg1.mono (fun j hj => List.mem_append_left _ hj), fun F ac w Q ht hr hk => wp_seq (hok1 F ac w _ ht hr fun F' a' w' ht' hst hdf => hk F' a' w' ht' hst hdf)⟩
          | r => exact ⟨.r, T1, H1, nx1, h, hw1, hg1.mono (fun j hj => List.mem_append_left _ hj), fun F ac w Q ht hr hk => wp_seq (hok1 F ac w _ ht hr fun F' a' w' ht' hst hdf => hk F' a' w' ht' hst hdf)⟩
        · rename_i ws ds da db
          obtain ⟨rfl, rfl⟩ := hc
          simp only [D.ok, Bool.and_eq_true] at hok
          obtain ⟨⟨⟨⟨q1, q2⟩, q3⟩, q4⟩, q5⟩ := hok
          have hl := allLt_mem q2
          obtain ⟨o, T1, H1, nx1, h, hw1, hg1, hok1⟩ := iha da ha q4 T H nx (fun T1 H nx => getsK T1 ws fun L => poisK d ds T fun T => setsK d L ws 0 T fun T => wD P d db T H nx k x r) x r hw hk
          cases o with
          | n =>
            simp only [Ox.go] at h
            rw [getsK_eq, poisK_eq, setsK_eq] at h
            obtain ⟨o2, T2, H2, nx2, h2, hw2, hg2, hok2⟩ := ihb db hb q5 _ H1 nx1 k x r (setT_wf (poisT_wf hw)) h
            refine ⟨o2, T2, H2, nx2, h2, hw2, ?_, fun F ac w Q ht hr hk => wp_seq (hok1 F ac w _ ht hr fun F' a' w' ht' hst hdf => ?_)⟩
            · exact ((agr_join hn hw hl q3).trans hg2).mono fun j hj => List.mem_append_right _ hj
            · exact hok2 F' a' w' Q (TR.join hn hw ht' hg1 (subL_mem q1) hl q3) hst.hr fun F2 a2 w2 ht2 hst2 hdf2 => hk F2 a2 w2 ht2 (hst.trans hst2) (hdf2.trans hdf)
          | x id => exact ⟨.x id, T1, H1, nx1, h, hw1, hg1.mono (fun j hj => List.mem_append_left _ hj), fun F ac w Q ht hr hk => wp_seq (hok1 F ac w _ ht hr fun F' a' w' ht' hst hdf => hk F' a' w' ht' hst hdf)⟩
          | r => exact ⟨.r, T1, H1, nx1, h, hw1, hg1.mono (fun j hj => List.mem_append_left _ hj), fun F ac w Q ht hr hk => wp_seq (hok1 F ac w _ ht hr fun F' a' w' ht' hst hdf => hk F' a' w' ht' hst hdf)⟩
  | cond v a b iha ihb =>
    intro c hc hok T H nx k x r hw hk
    simp only [compC] at hc
    cases hv : compX n v with
    | none => simp [hv] at hc
    | some cv => cases ha : compC P n a with
      | none => simp [hv, ha] at hc
      | some ca => cases hb : compC P n b with
        | none => simp [hv, ha, hb] at hc
        | some cb =>
          simp only [hv, ha, hb, Option.some.injEq] at hc
          cases c <;> simp only [D.erase, C.cond.injEq, reduceCtorEq] at hc
          rename_i y da db
          obtain ⟨rfl, rfl, rfl⟩ := hc
          simp only [D.ok, Bool.and_eq_true] at hok
          simp only [wD] at hk
          rw [evK_eq] at hk
          unfold wIf at hk
          split at hk
          · rename_i t hvt
            rw [ifK_eq] at hk
            have hev : ∀ (F : FM) (ac : Act), TR d F T n ac.tmps → ac.eval v = .bool t := fun F ac ht => by
              have := ht.evX hv
              rw [hvt] at this
              exact this.bool_inv
            cases t with
            | true =>
              obtain ⟨o, T1, H1, nx1, h, hw1, hg1, hok1⟩ := iha da ha hok.1 T H nx k x r hw (by simpa using hk)
              exact ⟨o, T1, H1, nx1, h, hw1, hg1.mono (fun j hj => List.mem_append_left _ hj), fun F ac w Q ht hr hk => wp_cond_true (hev F ac ht) (hok1 F ac w Q ht hr hk)⟩
            | false =>
              obtain ⟨o, T1, H1, nx1, h, hw1, hg1, hok1⟩ := ihb db hb hok.2 T H nx k x r hw (by simpa using hk)
              exact ⟨o, T1, H1, nx1, h, hw1, hg1.mono (fun j hj => List.mem_append_right _ hj), fun F ac w Q ht hr hk => wp_cond_false (hev F ac ht) (hok1 F ac w Q ht hr hk)⟩
          · exact hk.elim
  | block id a iha =>
    intro c hc hok T H nx k x r hw hk
    simp only [compC] at hc
    cases ha : compC P n a with
    | none => simp [ha] at hc
    | some ca =>
      simp only [ha, Option.map_some, Option.some.injEq] at hc
      cases c <;> simp only [D.erase, C.block.injEq, reduceCtorEq] at hc
      rename_i id2 da
      obtain ⟨rfl, rfl⟩ := hc
      obtain ⟨o, T1, H1, nx1, h, hw1, hg1, hok1⟩ := iha da ha hok T H nx k (fun id' T H nx => cond (Nat.beq id' id) (k T H nx) (x id' T H nx)) r hw hk
      cases o with
      | n => exact ⟨.n, T1, H1, nx1, h, hw1, hg1, fun F ac w Q ht hr hk => wp_block (hok1 F ac w _ ht hr fun F' a' w' ht' hst hdf => hk F' a' w' ht' hst hdf)⟩
      | r => exact ⟨.r, T1, H1, nx1, h, hw1, hg1, fun F ac w Q ht hr hk => wp_block (hok1 F ac w _ ht hr fun F' a' w' ht' hst hdf => hk F' a' w' ht' hst hdf)⟩
      | x id' =>
        simp only [Ox.go] at h
        cases hid : Nat.beq id' id with
        | true =>
          have e := Nat.eq_of_beq_eq_true hid
          subst e
          rw [hid] at h
          refine ⟨.n, T1, H1, nx1, h, hw1, hg1, fun F ac w Q ht hr hk => wp_block (hok1 F ac w _ ht hr fun F' a' w' ht' hst hdf => ?_)⟩
          simp only [Ox.exit, Exit.inBlock, if_true]
          exact hk F' a' w' ht' hst hdf
        | false =>
          have e : id' ≠ id := fun e => by subst e; simp at hid
          rw [hid] at h
          refine ⟨.x id', T1, H1, nx1, h, hw1, hg1, fun F ac w Q ht hr hk => wp_block (hok1 F ac w _ ht hr fun F' a' w' ht' hst hdf => ?_)⟩
          simp only [Ox.exit, Exit.inBlock, e, if_false]
          exact hk F' a' w' ht' hst hdf
  | scope a iha =>
    intro c hc hok T H nx k x r hw hk
    simp only [compC] at hc
    obtain ⟨o, T1, H1, nx1, h, hw1, hg1, hok1⟩ := iha c hc hok T H nx k x r hw hk
    refine ⟨o, T1, H1, nx1, h, hw1, hg1, fun F ac w Q ht hr hk => wp_scope_straight (hok1 F ac w _ ht hr fun F' a' w' ht' hst hdf => ?_)⟩
    cases o <;> exact hk F' a' w' ht' hst hdf
  | loop a iha =>
    intro c hc hok T H nx k x r hw hk
    simp only [compC] at hc
    cases ha : compC P n a with
    | none => simp [ha] at hc
    | some ca =>
      simp only [ha, Option.map_some, Option.some.injEq] at hc
      cases c <;> simp only [D.erase, C.loop.injEq, reduceCtorEq] at hc
      rename_i ws ds da
      subst hc
      simp only [D.ok, Bool.and_eq_true] at hok
      obtain ⟨⟨⟨q1, q2⟩, q3⟩, q4⟩ := hok
      have hl := allLt_mem q2
      simp only [wD] at hk
      rw [getsK_eq] at hk
      obtain ⟨m, hk⟩ := hk
      generalize hF : (fun (ih : JK) (L : List Value) (H : Heap) (nx : Nat) => poisK d ds T fun T => setsK d L ws 0 T fun T => wD P d da T H nx (fun T H nx => getsK T ws fun L => ih L H nx) x r) = Fn at hk
      -- the rounds
      have rounds : ∀ (m : Nat) (L : List Value) (H : Heap) (nx : Nat), wIter Fn m L H nx →
          ∃ (o : Ox) (T' : Tree Value) (H' : Heap) (nx' : Nat), o ≠ .n ∧ Ox.go k x r o T' H' nx' ∧ WF d T' ∧ Agr n ((ws ++ ds) ++ da.writes) T T' ∧
            ∀ (F : FM) (ac : Act) (w : World) (Q : Exit → Act → World → Prop), TR d F (setT d L ws 0 (poisT d ds T)) n ac.tmps → HR F H nx w →
              (∀ F' a' w', TR d F' T' n a'.tmps → Stp F H nx w F' H' nx' w' → a'.defers = ac.defers → Q o.exit a' w') → Code.rounds P a Q m ac w := by
        intro m
        induction m with
        | zero => intro L H nx h; exact h.elim
        | succ m ihm =>
          intro L H nx h
          have h' : Fn (wIter Fn m) L H nx := h
          rw [← hF] at h'
          rw [poisK_eq, setsK_eq] at h'
          obtain ⟨o, T1, H1, nx1, h1, hw1, hg1, hok1⟩ := iha da ha q4 _ H nx _ x r (setT_wf (poisT_wf hw)) h'
          cases o with
          | n =>
            simp only [Ox.go] at h1
            rw [getsK_eq, hF] at h1
            obtain ⟨o2, T2, H2, nx2, hne, h2, hw2, hg2, hok2⟩ := ihm _ H1 nx1 h1
            refine ⟨o2, T2, H2, nx2, hne, h2, hw2, hg2, fun F ac w Q ht hr hk => ?_⟩
            rw [rounds_succ]
            refine hok1 F ac w _ ht hr fun F' a' w' ht' hst hdf => ?_
            have ha2 : Agr n (ws ++ ds) T T1 := ((agr_join (L := L) hn hw hl q3).trans hg1).mono fun j hj => (List.mem_append.1 hj).elim id (subL_mem q1 j)
            exact hok2 F' a' w' Q (TR.join hn hw ht' ha2 (fun j hj => hj) hl q3) hst.hr fun F2 a2 w2 ht2 hst2 hdf2 => hk F2 a2 w2 ht2 (hst.trans hst2) (hdf2.trans hdf)
          | x id =>
            refine ⟨.x id, T1, H1, nx1, by simp, h1, hw1, (agr_join hn hw hl q3).trans hg1, fun F ac w Q ht hr hk => ?_⟩
            rw [rounds_succ]
            exact hok1 F ac w _ ht hr fun F' a' w' ht' hst hdf => hk F' a' w' ht' hst hdf
          | r =>
            refine ⟨.r, T1, H1, nx1, by simp, h1, hw1, (agr_join hn hw hl q3).trans hg1, fun F ac w Q ht hr hk => ?_⟩
            rw [rounds_succ]
            exact hok1 F ac w _ ht hr fun F' a' w' ht' hst hdf => hk F' a' w' ht' hst hdf
      obtain ⟨o, T1, H1, nx1, _, h, hw1, hg1, hok1⟩ := rounds m _ H nx hk
      refine ⟨o, T1, H1, nx1, h, hw1, hg1, fun F ac w Q ht hr hk => wp_loop_rounds m (hok1 F ac w Q ?_ hr hk)⟩
      exact TR.join hn hw ht (Agr.refl n (ws ++ ds) T) (fun j hj => hj) hl q3

/-- The claim of a function's body. -/
noncomputable def wBody (P : Program) (n d : Nat) (body : D) (res : List (X × Option (Option Nat))) (args : List Value) (H : Heap) (nx : Nat) (Q : Value → Heap → Nat → Prop) : Prop :=
  initT d args 0 .leaf fun T => wD P d body T H nx (retK P res False Q) (fun _ _ _ _ => False) (retK P res False Q)

/-- ████ WHAT THE CLAIM SAYS. ████ -/
theorem spec_of_body (hm : P.follows .mixedOrders = true) (hNG : NamesOK P) {f : FuncId} {body : D} {res : List (X × Option (Option Nat))} (hcf : cfn P f = some ⟨n, d, body.erase, res⟩) (hok : body.ok n d = true) {args : List Value} (hl : args.length ≤ n)
    {H : Heap} {nx : Nat} {Q : Value → Heap → Nat → Prop} (h : wBody P n d body res args H nx Q) : Ans P f args H nx Q := by
  unfold cfn at hcf
  rw [nth_eq] at hcf
  cases hf : P.funcs.toList[f]? with
  | none => simp [hf] at hcf
  | some fn =>
    simp only [hf] at hcf
    have hf' : P.funcs[f]? = some fn := by simpa using hf
    cases hb : fn.body with
    | none => simp [hb] at hcf
    | some c =>
      simp only [hb] at hcf
      cases hc : compC P fn.ntmps c with
      | none => simp [hc] at hcf
      | some cb =>
        cases hres : compR P fn.ntmps fn.results.toList with
        | none => simp [hc, hres] at hcf
        | some rs =>
          simp only [hc, hres] at hcf
          cases h8 : Nat.ble (Nat.log2 fn.ntmps + 1) 8 with
          | false => simp [h8] at hcf
          | true =>
          simp only [h8, cond_true, Option.some.injEq, CF.mk.injEq] at hcf
          obtain ⟨rfl, hd, rfl, rfl⟩ := hcf
          have h8' : d ≤ 8 := by rw [← hd]; exact Nat.le_of_ble_eq_true h8
          have hd' : fn.ntmps ≤ 2 ^ d := by rw [← hd]; exact Nat.le_of_lt Nat.lt_log2_self
          unfold wBody at h
          rw [initT_eq] at h
          have wl : WF d (.leaf : Tree Value) := h8'
          have hw := fillT_wf d args 0 .leaf wl
          obtain ⟨o, T', H', nx', h1, hw', _, hok1⟩ := wD_sound hm hd' c body hc hok _ H nx _ _ _ hw h
          have fin : (o = .n ∨ o = .r) → retK P rs False Q T' H' nx' → Ans P f args H nx Q := by
            intro hx hret
            unfold retK at hret
            rcases resK_sound (d := d) (T := T') (H := H') (nx := nx') False _ rs hres (fun vs => forceV (tup vs) fun v => Q v H' nx') with h2 | ⟨vs, h2, hok2⟩
            · rw [h2] at hret; exact hret.elim
            · rw [h2, forceV_eq] at hret
              refine ⟨tup vs, H', nx', ⟨⟨fn, c, hf', hb, hNG f fn hf'⟩, fun F args' w hr hv => ?_⟩, hret⟩
              refine calls_of_wp hf' hb (hok1 F _ w _ (TR_start hv hd' h8' hl) hr fun F' a' w' ht' hst hdf => ?_)
              obtain ⟨vs', h3, h4⟩ := hok2 F' a'.tmps w' ht' hst.hr.hb
              have hpost : a'.defers = [] ∧ ∃ v, (results fn a'.tmps).run P w' = .ok v w' ∧ (∃ v' F', Ending.returned v = .returned v' ∧ VR F' (tup vs) v' ∧ Stp F H nx w F' H' nx' w') :=
                ⟨hdf, tup vs', results_run h3, tup vs', F', rfl, tup_vr h4, hst⟩
              rcases hx with rfl | rfl <;> exact hpost
          cases o with
          | n => exact fin (.inl rfl) h1
          | x id => exact h1.elim
          | r => exact fin (.inr rfl) h1
end
end Go.Clo

namespace Go.Clo

abbrev VP := Value → Prop
abbrev EP := Value → Heap → Nat → Prop

noncomputable def wPick (c a b : Value) (k : VP) : Prop := match c with
  | .bool t => ifK t (k a) (k b)
  | _ => False
noncomputable def wBin (op : BinOp) (x y : Value) (k : VP) : Prop := binVK op x y False k
noncomputable def wUn (op : UnOp) (x : Value) (k : VP) : Prop := optK (unV op x) False k
noncomputable def wVf (f : VF) (xs : List Value) (k : VP) : Prop := optK (f.ev xs) False k
noncomputable def wFld (v : Value) (off : Nat) (k : VP) : Prop := match v with
  | .pointer (some a) => offK (a.off + off) a k
  | _ => False
noncomputable def wIdx (v vi : Value) (len : Option Nat) (size : Nat) (k : VP) : Prop := match vi with
  | .int _ (.ofNat i) => pIdx2 len size i False k v
  | _ => False
noncomputable def wNilc (v : Value) (k : VP) : Prop := match v with
  | .pointer (some a) => k (.pointer (some a))
  | _ => False
noncomputable def wExt (v : Value) (i : Nat) (k : VP) : Prop := match v with
  | .tuple vs => nthK vs.toList i False k
  | _ => False
noncomputable def wPart (v : Value) (off : Nat) (size : Option Nat) (k : VP) : Prop := match v with
  | .agg cs => cutK cs.toList off size False k
  | _ => False
noncomputable def wAidx (v vi : Value) (len size : Nat) (agg : Bool) (k : VP) : Prop := match vi with
  | .int _ (.ofNat i) => (match v with
    | .agg cs => cond (Nat.blt i len) (cutK cs.toList (i * size) (cond agg (some size) none) False k) False
    | _ => False)
  | _ => False
noncomputable def wBuild (z : List Value) (pl : List (Nat × Nat)) (vs : List (Nat × Value)) (k : VP) : Prop := match fillA (nth pl) z vs with
  | some cs => spine cs fun cs => k (.agg ⟨cs⟩)
  | none => False
noncomputable def wSlA (v : Value) (n size : Nat) (lo hi mx : Option Value) (k : VP) : Prop := match v with
  | .pointer (some a) => (match sliceA (some a) n n size lo hi mx false with
    | some r => force1 r k
    | none => False)
  | _ => False
noncomputable def wLd (v : Value) (size : Option Nat) (H : Heap) (k : VP) : Prop := match v with
  | .pointer (some ⟨b, o, none⟩) => getB H b False (ldB o size False k)
  | _ => False
noncomputable def wLk (kd : TypeDesc) (zero v vi : Value) (ok : Bool) (H : Heap) (k : VP) : Prop := cond (keyKind kd vi)
    ((fun (es : List MapEntry → Prop) => match v with
      | .map none => es []
      | .map (some r) => getB H r False fun b => match b with
        | .map l _ => es l
        | _ => False
      | _ => False) fun l => match Instr.findNow kd vi l 0 with
        | some (some (_, v)) => cond ok (apK k (.tuple ⟨[v, .bool true]⟩)) (apK k v)
        | some none => cond ok (apK k (.tuple ⟨[zero, .bool false]⟩)) (apK k zero)
        | none => False) False
noncomputable def wLen (v : Value) (kd : Nat) (H : Heap) (k : VP) : Prop := match kd, v with
    | 0, .slice _ n _ => apK k (.int .i64 (.ofNat n))
    | 1, .string s => forceN s.size fun n => apK k (.int .i64 (.ofNat n))
    | 2, .map none => apK k (.int .i64 (.ofNat 0))
    | 2, .map (some r) => getB H r False fun b => match b with
      | .map l _ => forceN l.length fun n => apK k (.int .i64 (.ofNat n))
      | _ => False
    | _, _ => False
noncomputable def wStr (v : Value) (H : Heap) (k : VP) : Prop := match v with
    | .slice none _ _ => apK k (.string ⟨#[]⟩)
    | .slice (some a) len _ => rowK H a len False fun cs => match bytesA cs with
      | some bs => apK k (.string ⟨⟨bs⟩⟩)
      | none => False
    | _ => False
noncomputable def wConv (kd : IntKind) (v : Value) (k : VP) : Prop := match v with
    | .int _ n => cond (fits kd n) (apK k (.int kd n)) (forceI (kd.wrap n) fun n => apK k (.int kd n))
    | _ => False
noncomputable def wSl (v : Value) (size : Nat) (lo hi mx : Option Value) (H : Heap) (k : VP) : Prop := match v with
    | .slice none len cap => (match sliceA none len cap size lo hi mx false with
      | some r => force1 r k
      | none => False)
    | .slice (some ⟨b, o, none⟩) len cap => getB H b False (slB ⟨b, o, none⟩ len cap size lo hi mx False k)
    | .slice (some ⟨b, o, some s⟩) len cap => cond (Nat.beq len 0 && Nat.beq cap 0 && Nat.beq b 0) (match sliceA none 0 0 size lo hi mx false with
      | some (.slice none 0 0) => k (.slice (some ⟨b, o, some s⟩) 0 0)
      | _ => False) False
    | _ => False
noncomputable def wNew (b : Blk) (y : Yld) (H : Heap) (nx : Nat) (k : EP) : Prop :=
  hsK H nx (some b) fun H => forceN (nx + 1) fun n => force1 (y.val nx) fun v => k v H n
noncomputable def dBox (v : Value) (k : List Value → Prop) : Prop := cond (oneCells v.cells.toList) (spine v.cells.toList k) False
noncomputable def dBsl (len size : Nat) (z : List Value) (vs : List (Nat × Value)) (k : List Value → Prop) : Prop :=
  match fillA (fun k => some (k * size, size)) (repeatA z len) vs with
    | some cs => cond (oneCells cs) (spine cs k) False
    | none => False
noncomputable def dMsl (vl vc : Value) (z : List Value) (k : List Value → Nat → Nat → Prop) : Prop := match vl, vc with
    | .int .i64 (.ofNat l), .int .i64 (.ofNat c) => cond (Nat.ble l c && Nat.ble c 1000000) (spine (repeatA z c) fun cs => k cs l c) False
    | _, _ => False
noncomputable def dMmap (x : Option Value) (k : Prop) : Prop := match x with
    | none => k
    | some (.int _ _) => k
    | _ => False
noncomputable def wNm (nx i : Nat) (y : Yld) (k : VP) : Prop := forceN (nx + i) fun q => forceV (y.val q) k
noncomputable def wSt (p v : Value) (size : Nat) (H : Heap) (k : Heap → Prop) : Prop := match p with
    | .pointer (some a) => cond (Nat.beq v.cells.toList.length size && oneCells v.cells.toList) (putCK H a v.cells.toList False k) False
    | _ => False
noncomputable def wUpd (kd : TypeDesc) (m key v : Value) (H : Heap) (nx : Nat) (k : EP) : Prop := match m with
    | .map (some r) => getB H r False (updK kd H nx r key v False k)
    | _ => False
noncomputable def wDel (kd : TypeDesc) (vm vk : Value) (H : Heap) (nx : Nat) (k : EP) : Prop := cond (keyKind kd vk) (match vm with
    | .map none => k undef H nx
    | .map (some r) => getB H r False fun b => match b with
      | .map es clock => (match Instr.findNow kd vk es 0 with
        | some (some (i, _)) => Go.Clo.spine (es.eraseIdx i) fun es => hsK H r (some (.map es clock)) fun H => k undef H nx
        | some none => hsK H r (some (.map es clock)) fun H => k undef H nx
        | none => False)
      | _ => False
    | _ => False) False
noncomputable def wCall (P : Program) (f : FuncId) (args : List Value) (H : Heap) (nx : Nat) (k : EP) : Prop := callP P f args H nx False k
noncomputable def wCallV (P : Program) (f : Value) (args : List Value) (H : Heap) (nx : Nat) (k : EP) : Prop := match f with
    | .func (.func g) ⟨first⟩ ⟨cap⟩ => spine (first ++ args ++ cap) fun vs => callP P g vs H nx False k
    | _ => False
noncomputable def wApp (s x : Value) (size bytes : Nat) (H : Heap) (nx : Nat) (k : EP) : Prop := appK H nx size bytes s x False k
noncomputable def wAppT (s x : Value) (tag size bytes : Nat) (H : Heap) (nx : Nat) (k : EP) : Prop := appKT tag H nx size bytes s x False k
noncomputable def wCopy (d s : Value) (size : Nat) (H : Heap) (nx : Nat) (k : EP) : Prop := match d, lenA s with
    | .slice base dLen _, some m => forceN (Nat.min m dLen) fun n => firstK H size n s False fun cs => cond (oneCells cs) (match base with
      | none => apK (apK (apK k (.int .i64 (.ofNat n))) H) nx
      | some a => putCK H a cs False fun H => apK (apK (apK k (.int .i64 (.ofNat n))) H) nx) False
    | _, _ => False
noncomputable def wClrM (v : Value) (H : Heap) (k : Heap → Prop) : Prop := match v with
    | .map none => k H
    | .map (some r) => getB H r False fun b => match b with
      | .map _ clock => hsK H r (some (.map [] clock)) k
      | _ => False
    | _ => False
noncomputable def wClrS (v : Value) (zero : List Value) (H : Heap) (k : Heap → Prop) : Prop := match v with
    | .slice none _ _ => k H
    | .slice (some ⟨b, o, none⟩) n _ => cond (Nat.beq n 0) (k H) (cond (oneCells (repeatA zero n)) (putCK H ⟨b, o, none⟩ (repeatA zero n) False k) False)
    | _ => False
noncomputable def wGuard (want : Bool) (v : Value) (yes no : Prop) : Prop := match v with
    | .bool b => ifK (cond b want (!want)) yes no
    | _ => False
end Go.Clo

namespace Go.Clo

/-! Joins, loops, calls. -/
theorem wJoin_rule {body : JK → Prop} {rest : JK} (R : JK) (h1 : ∀ j : JK, (∀ L H nx, R L H nx → j L H nx) → body j) (h2 : ∀ L H nx, R L H nx → rest L H nx) : wJoin body rest := h1 rest h2
theorem wJoin_eq (body : JK → Prop) (rest : JK) : wJoin body rest = body rest := rfl
/-- A loop: 'I m' holds where at most m rounds more are needed. -/
theorem wLoop_rule {F : JK → JK} (I : Nat → List Value → Heap → Nat → Prop) (step : ∀ m ih L H nx, I m L H nx → (∀ m' L' H' nx', m' < m → I m' L' H' nx' → ih L' H' nx') → F ih L H nx)
    {m : Nat} {L : List Value} {H : Heap} {nx : Nat} (h : I m L H nx) : wLoop F L H nx := by
  have key : ∀ (k m : Nat) (L : List Value) (H : Heap) (nx : Nat), m < k → I m L H nx → wIter F k L H nx := by
    intro k
    induction k with
    | zero => intro m L H nx h; omega
    | succ k ih =>
      intro m L H nx hm hI
      exact step m (wIter F k) L H nx hI fun m' L' H' nx' hm' hI' => ih m' L' H' nx' (by omega) hI'
  exact ⟨m + 1, key (m + 1) m L H nx (by omega) h⟩
theorem wCall_rule {P : Program} {f : FuncId} {args : List Value} {H : Heap} {nx : Nat} {k : EP} {Q : EP} (h : Ans P f args H nx Q) (hk : ∀ v H' nx', Q v H' nx' → k v H' nx') : wCall P f args H nx k := .inr (h.mono hk)

/-- The heap has grown: what was there is as it was. -/
structure Ext (H : Heap) (nx : Nat) (H' : Heap) (nx' : Nat) : Prop where
  le : nx ≤ nx'
  get : ∀ i, i < nx → getH H' i = getH H i
theorem Ext.refl (H : Heap) (nx : Nat) : Ext H nx H nx := ⟨Nat.le_refl _, fun _ _ => rfl⟩
theorem Ext.trans {H : Heap} {nx : Nat} {H1 : Heap} {n1 : Nat} {H2 : Heap} {n2 : Nat} (a : Ext H nx H1 n1) (b : Ext H1 n1 H2 n2) : Ext H nx H2 n2 :=
  ⟨Nat.le_trans a.le b.le, fun i hi => (b.get i (Nat.lt_of_lt_of_le hi a.le)).trans (a.get i hi)⟩
theorem Ext.new {H : Heap} {nx : Nat} {H1 : Heap} {n1 i m : Nat} (a : Ext H nx H1 n1) (b : Option Blk) (hi : nx ≤ i) (hm : n1 ≤ m) : Ext H nx (hs H1 i b) m :=
  ⟨Nat.le_trans a.le hm, fun j hj => by rw [getH_hs, if_neg (by omega)]; exact a.get j hj⟩
theorem Ext.hs {H : Heap} {nx : Nat} {H1 : Heap} {i m : Nat} {b : Option Blk} (a : Ext H nx H1 m) (hi : nx ≤ i) : Ext H nx (Go.Clo.hs H1 i b) m := a.new b hi (Nat.le_refl _)
theorem Ext.self {H : Heap} {nx m : Nat} (h : nx ≤ m) : Ext H nx H m := ⟨h, fun _ _ => rfl⟩
theorem Ext.more {H : Heap} {nx : Nat} {H1 : Heap} {n1 m : Nat} (a : Ext H nx H1 n1) (hm : n1 ≤ m) : Ext H nx H1 m := ⟨Nat.le_trans a.le hm, a.get⟩
theorem Ext.less {H : Heap} {nx n0 : Nat} {H1 : Heap} {n1 : Nat} (a : Ext H nx H1 n1) (hm : n0 ≤ nx) : Ext H n0 H1 n1 := ⟨Nat.le_trans hm a.le, fun i hi => a.get i (by omega)⟩

/-! Values. -/
theorem eqK_refl (k : IntKind) : eqK k k = true := by cases k <;> rfl
theorem wBin_eq (op : BinOp) (x y : Value) (k : VP) : wBin op x y k = (binV op x y).elim False k := binVK_eq op x y False k
section
variable (K : IntKind) (a b : Int) (k : VP)
theorem wBin_lss : wBin .lss (.int K a) (.int K b) k = k (.bool (decide (a < b))) := by rw [wBin_eq]; simp [binV, isShift, eqK_refl, intV]
theorem wBin_leq : wBin .leq (.int K a) (.int K b) k = k (.bool (decide (a ≤ b))) := by rw [wBin_eq]; simp [binV, isShift, eqK_refl, intV]
theorem wBin_gtr : wBin .gtr (.int K a) (.int K b) k = k (.bool (decide (b < a))) := by rw [wBin_eq]; simp [binV, isShift, eqK_refl, intV]
theorem wBin_geq : wBin .geq (.int K a) (.int K b) k = k (.bool (decide (b ≤ a))) := by rw [wBin_eq]; simp [binV, isShift, eqK_refl, intV]
theorem wBin_eql : wBin .eql (.int K a) (.int K b) k = k (.bool (decide (a = b))) := by rw [wBin_eq]; simp [binV, isShift, eqK_refl, intV]; rfl
theorem wBin_neq : wBin .neq (.int K a) (.int K b) k = k (.bool (decide (a ≠ b))) := by
  rw [wBin_eq]; simp only [binV, isShift, eqK_refl, intV, cond_true, cond_false, Option.elim_some]
  congr 2; rw [Bool.eq_iff_iff]; simp
theorem wBin_add : wBin .add (.int K a) (.int K b) k = k (.int K (K.wrap (a + b))) := by rw [wBin_eq]; simp [binV, isShift, eqK_refl, intV]
theorem wBin_sub : wBin .sub (.int K a) (.int K b) k = k (.int K (K.wrap (a - b))) := by rw [wBin_eq]; simp [binV, isShift, eqK_refl, intV]
theorem wBin_mul : wBin .mul (.int K a) (.int K b) k = k (.int K (K.wrap (a * b))) := by rw [wBin_eq]; simp [binV, isShift, eqK_refl, intV]
theorem wBin_quo (h : b ≠ 0) : wBin .quo (.int K a) (.int K b) k = k (.int K (K.wrap (a.tdiv b))) := by rw [wBin_eq]; simp [binV, isShift, eqK_refl, intV, h]
theorem wBin_rem (h : b ≠ 0) : wBin .rem (.int K a) (.int K b) k = k (.int K (a.tmod b)) := by rw [wBin_eq]; simp [binV, isShift, eqK_refl, intV, h]
theorem i64_id {x : Int} (h1 : -9223372036854775808 ≤ x) (h2 : x < 9223372036854775808) : IntKind.i64.wrap x = x := IntWalk.i64_in _ ⟨h1, by omega⟩
theorem wBin_add64 (h1 : -9223372036854775808 ≤ a + b) (h2 : a + b < 9223372036854775808) : wBin .add (.int .i64 a) (.int .i64 b) k = k (.int .i64 (a + b)) := by rw [wBin_add, i64_id h1 h2]
theorem wBin_sub64 (h1 : -9223372036854775808 ≤ a - b) (h2 : a - b < 9223372036854775808) : wBin .sub (.int .i64 a) (.int .i64 b) k = k (.int .i64 (a - b)) := by rw [wBin_sub, i64_id h1 h2]
end
theorem wIf_bool (b : Bool) (t e : Prop) : wIf (.bool b) t e = if b = true then t else e := by unfold wIf; exact ifK_eq b t e
theorem wGuard_true (b : Bool) (y n : Prop) : wGuard true (.bool b) y n = if b = true then y else n := by cases b <;> rfl
theorem wGuard_false (b : Bool) (y n : Prop) : wGuard false (.bool b) y n = if b = true then n else y := by cases b <;> rfl
theorem wPick_true (a b : Value) (k : VP) : wPick (.bool true) a b k = k a := rfl
theorem wPick_false (a b : Value) (k : VP) : wPick (.bool false) a b k = k b := rfl
theorem wUn_not (b : Bool) (k : VP) : wUn .not (.bool b) k = k (.bool !b) := by unfold wUn; rw [optK_eq]; rfl
theorem wFld_eq (b o : Nat) (s : Option Nat) (off : Nat) (k : VP) : wFld (.pointer (some ⟨b, o, s⟩)) off k = k (.pointer (some ⟨b, o + off, s⟩)) := by
  show forceN (o + off) (fun n => k (.pointer (some ⟨b, n, s⟩))) = _
  rw [forceN_eq]
theorem wIdx_slice {i : Int} {n : Nat} (h1 : 0 ≤ i) (h2 : i < n) (b o : Nat) (s : Option Nat) (c size : Nat) (kd : IntKind) (k : VP) : wIdx (.slice (some ⟨b, o, s⟩) n c) (.int kd i) none size k = k (.pointer (some ⟨b, o + i.toNat * size, s⟩)) := by
  obtain ⟨j, rfl⟩ := Int.eq_ofNat_of_zero_le h1
  have : Nat.blt j n = true := by simp; omega
  show cond (Nat.blt j n) (offK (o + j * size) ⟨b, o, s⟩ k) False = _
  rw [this]; unfold offK; simp only [cond_true]; rw [forceN_eq]; rfl
theorem wIdx_array {i : Int} {n : Nat} (h1 : 0 ≤ i) (h2 : i < n) (b o : Nat) (s : Option Nat) (size : Nat) (kd : IntKind) (k : VP) : wIdx (.pointer (some ⟨b, o, s⟩)) (.int kd i) (some n) size k = k (.pointer (some ⟨b, o + i.toNat * size, s⟩)) := by
  obtain ⟨j, rfl⟩ := Int.eq_ofNat_of_zero_le h1
  have : Nat.blt j n = true := by simp; omega
  show cond (Nat.blt j n) (offK (o + j * size) ⟨b, o, s⟩ k) False = _
  rw [this]; unfold offK; simp only [cond_true]; rw [forceN_eq]; rfl
theorem wNilc_eq (a : Addr) (k : VP) : wNilc (.pointer (some a)) k = k (.pointer (some a)) := rfl
theorem wExt_eq (l : List Value) (i : Nat) (k : VP) : wExt (.tuple ⟨l⟩) i k = (l[i]?).elim False k := by unfold wExt; exact nthK_eq l i False k
theorem wPart_one (l : List Value) (o : Nat) (k : VP) : wPart (.agg ⟨l⟩) o none k = (l[o]?).elim False k := by unfold wPart cutK; exact nthK_eq l o False k
theorem wPart_agg (l : List Value) (o n : Nat) (k : VP) : wPart (.agg ⟨l⟩) o (some n) k = k (.agg ⟨(l.drop o).take n⟩) := by unfold wPart cutK; exact spine_eq _ _
theorem wLen_slice (a : Option Addr) (n c : Nat) (H : Heap) (k : VP) : wLen (.slice a n c) 0 H k = k (.int .i64 n) := rfl
theorem wLen_string (s : ByteArray) (H : Heap) (k : VP) : wLen (.string s) 1 H k = k (.int .i64 s.size) := by unfold wLen; exact forceN_eq _ _
theorem wConv_eq (kd k' : IntKind) (n : Int) (k : VP) : wConv kd (.int k' n) k = k (.int kd (kd.wrap n)) := by
  show cond (fits kd n) (k (.int kd n)) (forceI (kd.wrap n) fun n => k (.int kd n)) = _
  rw [forceI_eq]
  cases hf : fits kd n with
  | true => rw [fits_wrap hf]; rfl
  | false => rfl
theorem wNew_eq (b : Blk) (y : Yld) (H : Heap) (nx : Nat) (k : EP) : wNew b y H nx k = k (y.val nx) (hs H nx (some b)) (nx + 1) := by unfold wNew; rw [hsK_eq, forceN_eq, force1_eq]
theorem wNm_eq (nx i : Nat) (y : Yld) (k : VP) : wNm nx i y k = k (y.val (nx + i)) := by unfold wNm; rw [forceN_eq, forceV_eq]
theorem dBox_eq {v : Value} (h : oneCells v.cells.toList = true) (k : List Value → Prop) : dBox v k = k v.cells.toList := by unfold dBox; rw [h]; exact spine_eq _ _

theorem dBox_agg (l : List Value) (k : List Value → Prop) : dBox (.agg ⟨l⟩) k = if oneCells l = true then k l else False := by
  show cond (oneCells l) (spine l k) False = _
  rw [spine_eq]; cases oneCells l <;> rfl
theorem dBox_int (K : IntKind) (n : Int) (k : List Value → Prop) : dBox (.int K n) k = k [.int K n] := dBox_eq (v := .int K n) rfl k
theorem dBox_slice (A : Option Addr) (n c : Nat) (k : List Value → Prop) : dBox (.slice A n c) k = k [.slice A n c] := dBox_eq (v := .slice A n c) rfl k
theorem dBox_string (s : ByteArray) (k : List Value → Prop) : dBox (.string s) k = k [.string s] := dBox_eq (v := .string s) rfl k
theorem dBox_bool (s : Bool) (k : List Value → Prop) : dBox (.bool s) k = k [.bool s] := dBox_eq (v := .bool s) rfl k
theorem dBox_map (s : Option Nat) (k : List Value → Prop) : dBox (.map s) k = k [.map s] := dBox_eq (v := .map s) rfl k
theorem dBox_ptr (s : Option Addr) (k : List Value → Prop) : dBox (.pointer s) k = k [.pointer s] := dBox_eq (v := .pointer s) rfl k
theorem dBsl_eq (len size : Nat) (z : List Value) (vs : List (Nat × Value)) (k : List Value → Prop) : dBsl len size z vs k = (match fillA (fun k => some (k * size, size)) (repeatA z len) vs with | some cs => if oneCells cs = true then k cs else False | none => False) := by
  unfold dBsl
  cases fillA (fun k => some (k * size, size)) (repeatA z len) vs with
  | none => rfl
  | some cs => dsimp only; rw [spine_eq]; cases oneCells cs <;> rfl

/-! Memory. -/
def cellP (c : List Value) (o : Nat) (size : Option Nat) (k : VP) : Prop := match size with
  | none => (c[o]?).elim False k
  | some n => o + n ≤ c.length ∧ k (.agg ⟨(c.drop o).take n⟩)
def ldP (b : Option Blk) (o : Nat) (size : Option Nat) (k : VP) : Prop := match b with
  | some (.cells c _) => cellP c o size k
  | some (.rom c) => cellP c o size k
  | _ => False
theorem takeN_some {α : Type} : ∀ {n : Nat} {l : List α}, n ≤ l.length → takeN n l = some (l.take n)
  | 0, l, _ => by simp [takeN]
  | n + 1, [], h => by simp at h
  | n + 1, a :: l, h => by simp [takeN, takeN_some (n := n) (l := l) (by simpa using h)]
theorem takeN_none {α : Type} : ∀ {n : Nat} {l : List α}, l.length < n → takeN n l = none
  | 0, l, h => by omega
  | n + 1, [], _ => rfl
  | n + 1, a :: l, h => by simp [takeN, takeN_none (n := n) (l := l) (by simpa using h)]
theorem ldC_eq (o : Nat) (size : Option Nat) (k : VP) (c : List Value) (hle : ∀ n, size = some n → 0 < n) : ldC o size False k c = cellP c o size k := by
  unfold ldC cellP
  cases size with
  | none => exact nthK_eq c o False k
  | some n =>
    dsimp only
    have hn := hle n rfl
    by_cases h : o + n ≤ c.length
    · rw [takeN_some (by simp; omega)]; dsimp only; rw [spine_eq]; simp [h]
    · rw [takeN_none (by simp; omega)]; simp [h]
theorem wLd_eq (b o : Nat) (size : Option Nat) (H : Heap) (k : VP) (hle : ∀ n, size = some n → 0 < n) : wLd (.pointer (some ⟨b, o, none⟩)) size H k = ldP (getH H b) o size k := by
  show getB H b False (ldB o size False k) = _
  rw [getB_eq]
  unfold ldP
  cases getH H b with
  | none => rfl
  | some blk =>
    cases blk with
    | map es q => rfl
    | iter _ _ _ => rfl
    | cells c sl => exact ldC_eq o size k c hle
    | rom c => exact ldC_eq o size k c hle
theorem wLd_none (b o : Nat) (H : Heap) (k : VP) : wLd (.pointer (some ⟨b, o, none⟩)) none H k = ldP (getH H b) o none k := wLd_eq b o none H k (fun n h => by cases h)
theorem wLd_some (b o n : Nat) (H : Heap) (k : VP) : wLd (.pointer (some ⟨b, o, none⟩)) (some (n + 1)) H k = ldP (getH H b) o (some (n + 1)) k := wLd_eq b o _ H k (fun m h => by cases h; omega)
theorem wLd_2 (b o : Nat) (H : Heap) (k : VP) : wLd (.pointer (some ⟨b, o, none⟩)) (some 2) H k = ldP (getH H b) o (some 2) k := wLd_some b o 1 H k
theorem wLd_3 (b o : Nat) (H : Heap) (k : VP) : wLd (.pointer (some ⟨b, o, none⟩)) (some 3) H k = ldP (getH H b) o (some 3) k := wLd_some b o 2 H k
theorem wLd_32 (b o : Nat) (H : Heap) (k : VP) : wLd (.pointer (some ⟨b, o, none⟩)) (some 32) H k = ldP (getH H b) o (some 32) k := wLd_some b o 31 H k
theorem ldP_cells (c : List Value) (sl o : Nat) (size : Option Nat) (k : VP) : ldP (some (.cells c sl)) o size k = cellP c o size k := rfl
theorem ldP_rom (c : List Value) (o : Nat) (size : Option Nat) (k : VP) : ldP (some (.rom c)) o size k = cellP c o size k := rfl
theorem cellP_one (c : List Value) (o : Nat) (k : VP) : cellP c o none k = (c[o]?).elim False k := rfl
theorem cellP_agg (c : List Value) (o n : Nat) (k : VP) : cellP c o (some n) k = (o + n ≤ c.length ∧ k (.agg ⟨(c.drop o).take n⟩)) := rfl

def putL (c : List Value) (o : Nat) (vs : List Value) : List Value := c.take o ++ vs ++ c.drop (o + vs.length)
def stP (b : Option Blk) (o : Nat) (vs : List Value) (k : Blk → Prop) : Prop := match b with
  | some (.cells c sl) => o + vs.length ≤ c.length ∧ k (.cells (putL c o vs) sl)
  | _ => False
theorem putCK_eq (H : Heap) (b o : Nat) (vs : List Value) (k : Heap → Prop) : putCK H ⟨b, o, none⟩ vs False k = stP (getH H b) o vs fun blk => k (hs H b (some blk)) := by
  unfold putCK stP
  dsimp only
  rw [getB_eq]
  cases getH H b with
  | none => rfl
  | some blk =>
    cases blk with
    | map es q => rfl
    | iter _ _ _ => rfl
    | rom c => rfl
    | cells c sl =>
      dsimp only [Option.elim_some]
      by_cases h : o + vs.length ≤ c.length
      · rw [Nat.ble_eq_true_of_le h]; simp only [cond_true]; rw [ovAt_eq _ _ _ _ (by omega), hsK_eq]; simp [h, putL]
      · have : Nat.ble (o + vs.length) c.length = false := by
          cases hb : Nat.ble (o + vs.length) c.length with
          | false => rfl
          | true => exact absurd (Nat.le_of_ble_eq_true hb) h
        rw [this]; simp [h]
theorem wSt_eq {v : Value} {size : Nat} (h1 : v.cells.toList.length = size) (h2 : oneCells v.cells.toList = true) (b o : Nat) (H : Heap) (k : Heap → Prop) : wSt (.pointer (some ⟨b, o, none⟩)) v size H k = stP (getH H b) o v.cells.toList fun blk => k (hs H b (some blk)) := by
  show cond (Nat.beq v.cells.toList.length size && oneCells v.cells.toList) (putCK H ⟨b, o, none⟩ v.cells.toList False k) False = _
  rw [h2, h1]
  have : Nat.beq size size = true := by simp
  rw [this]
  exact putCK_eq H b o _ k
theorem wSt_agg (l : List Value) (size b o : Nat) (H : Heap) (k : Heap → Prop) : wSt (.pointer (some ⟨b, o, none⟩)) (.agg ⟨l⟩) size H k = if l.length = size ∧ oneCells l = true then stP (getH H b) o l fun blk => k (hs H b (some blk)) else False := by
  by_cases h : l.length = size ∧ oneCells l = true
  · rw [if_pos h]; exact wSt_eq (v := .agg ⟨l⟩) h.1 h.2 b o H k
  · rw [if_neg h]
    show cond (Nat.beq l.length size && oneCells l) (putCK H ⟨b, o, none⟩ l False k) False = False
    have : (Nat.beq l.length size && oneCells l) = false := by
      cases hb : (Nat.beq l.length size && oneCells l) with
      | false => rfl
      | true =>
        rw [Bool.and_eq_true] at hb
        exact absurd ⟨Nat.eq_of_beq_eq_true hb.1, hb.2⟩ h
    rw [this]; rfl
section
variable (b o : Nat) (H : Heap) (k : Heap → Prop)
theorem wSt_int (K : IntKind) (n : Int) : wSt (.pointer (some ⟨b, o, none⟩)) (.int K n) 1 H k = stP (getH H b) o [.int K n] fun blk => k (hs H b (some blk)) := wSt_eq (v := .int K n) rfl rfl b o H k
theorem wSt_bool (x : Bool) : wSt (.pointer (some ⟨b, o, none⟩)) (.bool x) 1 H k = stP (getH H b) o [.bool x] fun blk => k (hs H b (some blk)) := wSt_eq (v := .bool x) rfl rfl b o H k
theorem wSt_string (x : ByteArray) : wSt (.pointer (some ⟨b, o, none⟩)) (.string x) 1 H k = stP (getH H b) o [.string x] fun blk => k (hs H b (some blk)) := wSt_eq (v := .string x) rfl rfl b o H k
theorem wSt_slice (A : Option Addr) (n c : Nat) : wSt (.pointer (some ⟨b, o, none⟩)) (.slice A n c) 1 H k = stP (getH H b) o [.slice A n c] fun blk => k (hs H b (some blk)) := wSt_eq (v := .slice A n c) rfl rfl b o H k
theorem wSt_ptr (A : Option Addr) : wSt (.pointer (some ⟨b, o, none⟩)) (.pointer A) 1 H k = stP (getH H b) o [.pointer A] fun blk => k (hs H b (some blk)) := wSt_eq (v := .pointer A) rfl rfl b o H k
theorem wSt_map (r : Option Nat) : wSt (.pointer (some ⟨b, o, none⟩)) (.map r) 1 H k = stP (getH H b) o [.map r] fun blk => k (hs H b (some blk)) := wSt_eq (v := .map r) rfl rfl b o H k
theorem wSt_func (f : Fn) (x y : Array Value) : wSt (.pointer (some ⟨b, o, none⟩)) (.func f x y) 1 H k = stP (getH H b) o [.func f x y] fun blk => k (hs H b (some blk)) := wSt_eq (v := .func f x y) rfl rfl b o H k
end
theorem stP_cells (c : List Value) (sl o : Nat) (vs : List Value) (k : Blk → Prop) : stP (some (.cells c sl)) o vs k = (o + vs.length ≤ c.length ∧ k (.cells (putL c o vs) sl)) := rfl
theorem putL_one {c : List Value} {o : Nat} {v : Value} (h : o < c.length) : putL c o [v] = c.set o v := by
  unfold putL
  rw [List.set_eq_take_append_cons_drop, if_pos h]; simp
theorem putL_all {c vs : List Value} (h : vs.length = c.length) : putL c 0 vs = vs := by
  unfold putL; simp [h]
theorem getH_same (H : Heap) (i : Nat) (b : Option Blk) : getH (hs H i b) i = b := by rw [getH_hs, if_pos rfl]
theorem getH_ne {H : Heap} {i j : Nat} (b : Option Blk) (h : j ≠ i) : getH (hs H i b) j = getH H j := by rw [getH_hs, if_neg h]

/-! Append. -/
theorem firstK_slice (H : Heap) (size n : Nat) (b o len cap : Nat) (k : List Value → Prop) (hn : 0 < n * size) : firstK H size n (.slice (some ⟨b, o, none⟩) len cap) False k = match (getH H b).bind Blk.row with
    | some c => o + n * size ≤ c.length ∧ k ((c.drop o).take (n * size))
    | none => False := by
  unfold firstK rowK
  dsimp only
  rw [getB_eq]
  have main : ∀ c : List Value, (match takeN (n * size) (c.drop o) with | some l => spine l k | none => False) = (o + n * size ≤ c.length ∧ k ((c.drop o).take (n * size))) := by
    intro c
    by_cases h : o + n * size ≤ c.length
    · rw [takeN_some (by simp; omega)]; dsimp only; rw [spine_eq]; simp [h]
    · rw [takeN_none (by simp; omega)]; simp [h]
  cases getH H b with
  | none => rfl
  | some blk =>
    cases blk with
    | map es q => rfl
    | iter _ _ _ => rfl
    | cells c sl => exact main c
    | rom c => exact main c
end Go.Clo

namespace Go.Clo

/-- The vertices of a that are not of b. -/
def ndiff (a b : Nat) : Nat := a ^^^ (a &&& b)
theorem ndiff_bit (a b i : Nat) : (ndiff a b).testBit i = (a.testBit i && !b.testBit i) := by
  unfold ndiff; rw [Nat.testBit_xor, Nat.testBit_and]; cases a.testBit i <;> cases b.testBit i <;> rfl
theorem ndiff_lt {a b n : Nat} (h : a < 2 ^ n) : ndiff a b < 2 ^ n := Nat.xor_lt_two_pow h (Nat.and_lt_two_pow' _ h)
where
  Nat.and_lt_two_pow' {x n : Nat} (y : Nat) (h : x < 2 ^ n) : x &&& y < 2 ^ n := Nat.lt_of_le_of_lt Nat.and_le_left h
abbrev U32 : Nat := 4294967296
theorem u32_wrap {a : Nat} (h : a < 4294967296) : IntKind.u32.wrap (a : Int) = a := by
  simp only [IntKind.wrap, IntKind.signed, IntKind.bits]; simp; omega
theorem u32_wrap' {a : Int} (h : 0 ≤ a) (h2 : a < 4294967296) : IntKind.u32.wrap a = a := by
  obtain ⟨n, rfl⟩ := Int.eq_ofNat_of_zero_le h; exact u32_wrap (by omega)
theorem ofInt_nat (w a : Nat) : BitVec.ofInt w (a : Int) = BitVec.ofNat w a := by
  apply BitVec.eq_of_toNat_eq; simp
theorem lt32 {a b : Nat} (h : a < 4294967296) : a &&& b < 4294967296 := Nat.lt_of_le_of_lt Nat.and_le_left h
theorem or32 {a b : Nat} (ha : a < 4294967296) (hb : b < 4294967296) : a ||| b < 4294967296 := Nat.or_lt_two_pow (n := 32) ha hb
theorem xor32 {a b : Nat} (ha : a < 4294967296) (hb : b < 4294967296) : a ^^^ b < 4294967296 := Nat.xor_lt_two_pow (n := 32) ha hb
theorem ndiff32 {a b : Nat} (ha : a < 4294967296) : ndiff a b < 4294967296 := ndiff_lt (n := 32) ha

section
variable {a b : Nat} (k : VP)
theorem wBin_and32 (ha : a < 4294967296) (hb : b < 4294967296) : wBin .and (.int .u32 (a : Int)) (.int .u32 (b : Int)) k = k (.int .u32 ((a &&& b : Nat) : Int)) := by
  rw [wBin_eq]
  show k (.int .u32 (IntKind.u32.wrap ((BitVec.ofInt 32 (a : Int) &&& BitVec.ofInt 32 (b : Int)).toNat : Int))) = _
  rw [ofInt_nat, ofInt_nat, BitVec.toNat_and, BitVec.toNat_ofNat, BitVec.toNat_ofNat, Nat.mod_eq_of_lt (by simpa using ha), Nat.mod_eq_of_lt (by simpa using hb), u32_wrap (lt32 ha)]
theorem wBin_or32 (ha : a < 4294967296) (hb : b < 4294967296) : wBin .or (.int .u32 (a : Int)) (.int .u32 (b : Int)) k = k (.int .u32 ((a ||| b : Nat) : Int)) := by
  rw [wBin_eq]
  show k (.int .u32 (IntKind.u32.wrap ((BitVec.ofInt 32 (a : Int) ||| BitVec.ofInt 32 (b : Int)).toNat : Int))) = _
  rw [ofInt_nat, ofInt_nat, BitVec.toNat_or, BitVec.toNat_ofNat, BitVec.toNat_ofNat, Nat.mod_eq_of_lt (by simpa using ha), Nat.mod_eq_of_lt (by simpa using hb), u32_wrap (or32 ha hb)]
theorem wBin_andNot32 (ha : a < 4294967296) (hb : b < 4294967296) : wBin .andNot (.int .u32 (a : Int)) (.int .u32 (b : Int)) k = k (.int .u32 ((ndiff a b : Nat) : Int)) := by
  rw [wBin_eq]
  show k (.int .u32 (IntKind.u32.wrap ((BitVec.ofInt 32 (a : Int) &&& ~~~(BitVec.ofInt 32 (b : Int))).toNat : Int))) = _
  rw [ofInt_nat, ofInt_nat]
  have e : (BitVec.ofNat 32 a &&& ~~~(BitVec.ofNat 32 b)).toNat = ndiff a b := by
    apply Nat.eq_of_testBit_eq
    intro i
    rw [ndiff_bit, BitVec.testBit_toNat, BitVec.getLsbD_and, BitVec.getLsbD_not, BitVec.getLsbD_ofNat, BitVec.getLsbD_ofNat]
    by_cases hi : i < 32
    · simp [hi]
    · have : a.testBit i = false := Nat.testBit_lt_two_pow (Nat.lt_of_lt_of_le ha (Nat.pow_le_pow_right (n := 2) (by omega) (show 32 ≤ i by omega)))
      simp [hi, this]
  rw [e, u32_wrap (ndiff32 ha)]
theorem wBin_shr32 {n : Nat} {K : IntKind} (ha : a < 4294967296) : wBin .shr (.int .u32 (a : Int)) (.int K (n : Int)) k = k (.int .u32 ((a >>> n : Nat) : Int)) := by
  rw [wBin_eq]
  have hn : ¬ (n : Int) < 0 := by omega
  simp only [binV, isShift, shiftV, cond_true, hn, if_false, Option.elim_some, IntKind.bits]
  congr 2
  have e : ((2 : Int) ^ min ((n : Int)).toNat 32) = ((2 ^ min n 32 : Nat) : Int) := by simp
  rw [e, Int.fdiv_eq_ediv_of_nonneg _ (Int.natCast_nonneg _), ← Int.natCast_ediv, Nat.shiftRight_eq_div_pow]
  congr 1
  by_cases h : n ≤ 32
  · rw [Nat.min_eq_left h]
  · rw [Nat.min_eq_right (by omega), Nat.div_eq_of_lt (by simpa using ha), Nat.div_eq_of_lt (Nat.lt_of_lt_of_le ha (by
      have := Nat.pow_le_pow_right (n := 2) (by omega) (show 32 ≤ n by omega)
      simpa using this))]
theorem wBin_shl32 {n : Nat} {K : IntKind} (hn : n < 32) : wBin .shl (.int .u32 1) (.int K (n : Int)) k = k (.int .u32 ((2 ^ n : Nat) : Int)) := by
  rw [wBin_eq]
  have h0 : ¬ (n : Int) < 0 := by omega
  simp only [binV, isShift, shiftV, cond_true, h0, if_false, Option.elim_some, IntKind.bits]
  congr 2
  have e : (1 * (2 : Int) ^ min ((n : Int)).toNat 32) = ((2 ^ n : Nat) : Int) := by
    have : min n 32 = n := by omega
    simp [this]
  rw [e, u32_wrap]
  exact Nat.lt_of_lt_of_le (Nat.pow_lt_pow_right (by omega) hn) (by decide)
theorem wBin_and1 (ha : a < 4294967296) : wBin .and (.int .u32 (a : Int)) (.int .u32 1) k = k (.int .u32 ((a % 2 : Nat) : Int)) := by
  have := wBin_and32 (b := 1) k ha (by omega)
  rw [Nat.and_one_is_mod] at this
  exact this
theorem wBin_rem2 (ha : a < 4294967296) : wBin .rem (.int .u32 (a : Int)) (.int .u32 2) k = k (.int .u32 ((a % 2 : Nat) : Int)) := by
  rw [wBin_rem _ _ _ _ (by omega)]
  congr 2
theorem shr_lt {n : Nat} (ha : a < 4294967296) : a >>> n < 4294967296 := Nat.lt_of_le_of_lt (Nat.shiftRight_le a n) ha
theorem bit_one (a n : Nat) : decide ((((a >>> n) % 2 : Nat) : Int) = 1) = a.testBit n := by
  rw [Nat.testBit_eq_decide_div_mod_eq, Nat.shiftRight_eq_div_pow]
  congr 1; apply propext; omega
theorem bit_zero (a n : Nat) : decide ((((a >>> n) % 2 : Nat) : Int) = 0) = !a.testBit n := by
  rw [Nat.testBit_eq_decide_div_mod_eq, Nat.shiftRight_eq_div_pow]
  generalize a / 2 ^ n = m
  rw [Bool.eq_iff_iff]
  simp only [decide_eq_true_eq, Bool.not_eq_true', decide_eq_false_iff_not]; omega
theorem bit_zero' (a n : Nat) : decide ((a >>> n) % 2 = 0) = !a.testBit n := by rw [← bit_zero]; congr 1; apply propext; omega
theorem bit_one' (a n : Nat) : decide ((a >>> n) % 2 = 1) = a.testBit n := by rw [← bit_one]; congr 1; apply propext; omega
theorem u32_eq_zero (a : Nat) : decide ((a : Int) = 0) = decide (a = 0) := by congr 1; apply propext; omega
theorem u32_ne_zero (a : Nat) : decide ((a : Int) ≠ 0) = decide (a ≠ 0) := by congr 1; apply propext; omega
theorem u32_eq (a b : Nat) : decide ((a : Int) = (b : Int)) = decide (a = b) := by congr 1; apply propext; omega
theorem u32_ne (a b : Nat) : decide ((a : Int) ≠ (b : Int)) = decide (a ≠ b) := by congr 1; apply propext; omega
end
end Go.Clo

namespace Go.Clo

noncomputable def rowOf (H : Heap) (b : Nat) : Option (List Value) := (getH H b).bind Blk.row
theorem ldP_row {H : Heap} {b : Nat} {row : List Value} (h : rowOf H b = some row) (o : Nat) (size : Option Nat) (k : VP) : ldP (getH H b) o size k = cellP row o size k := by
  unfold rowOf at h
  cases hg : getH H b with
  | none => rw [hg] at h; cases h
  | some blk =>
    rw [hg] at h
    cases blk with
    | map es q => cases h
    | iter _ _ _ => cases h
    | cells c sl => cases h; rfl
    | rom c => cases h; rfl
theorem Ext.row {H : Heap} {nx : Nat} {H' : Heap} {nx' b : Nat} (h : Ext H nx H' nx') (hb : b < nx) : rowOf H' b = rowOf H b := by unfold rowOf; rw [h.get b hb]

/-- The slice at A holds these cells. -/
def Sl (H : Heap) (nx : Nat) (A : Option Addr) (c : List Value) : Prop :=
  ∀ i v, c[i]? = some v → ∃ b o row, A = some ⟨b, o, none⟩ ∧ b < nx ∧ rowOf H b = some row ∧ row[o + i]? = some v
theorem Sl.ext {H : Heap} {nx : Nat} {H' : Heap} {nx' : Nat} {A : Option Addr} {c : List Value} (h : Sl H nx A c) (e : Ext H nx H' nx') : Sl H' nx' A c := fun i v hv =>
  let ⟨b, o, row, h1, h2, h3, h4⟩ := h i v hv
  ⟨b, o, row, h1, Nat.lt_of_lt_of_le h2 e.le, by rw [e.row h2]; exact h3, h4⟩
theorem Sl.nil (H : Heap) (nx : Nat) (A : Option Addr) : Sl H nx A [] := fun i v h => by simp at h
theorem Sl.open {H : Heap} {nx : Nat} {A : Option Addr} {c : List Value} (h : Sl H nx A c) {i : Nat} (hi : i < c.length) :
    ∃ b o row, A = some ⟨b, o, none⟩ ∧ b < nx ∧ rowOf H b = some row ∧ ∀ j v, c[j]? = some v → row[o + j]? = some v := by
  obtain ⟨b, o, row, h1, h2, h3, _⟩ := h i c[i] (List.getElem?_eq_getElem hi)
  refine ⟨b, o, row, h1, h2, h3, fun j v hv => ?_⟩
  obtain ⟨b', o', row', g1, g2, g3, g4⟩ := h j v hv
  rw [h1] at g1; cases g1
  rw [h3] at g3; cases g3
  exact g4
theorem cellP_list {row : List Value} {o n : Nat} {l : List Value} (hl : l.length = n) (h : ∀ j v, l[j]? = some v → row[o + j]? = some v) (k : VP) (hn : 0 < n) : cellP row o (some n) k = k (.agg ⟨l⟩) := by
  have hlen : o + n ≤ row.length := by
    have := h (n - 1) l[n - 1] (List.getElem?_eq_getElem (by omega))
    rcases Nat.lt_or_ge (o + (n - 1)) row.length with g | g
    · omega
    · rw [List.getElem?_eq_none g] at this; cases this
  have e : (row.drop o).take n = l := by
    apply List.ext_getElem?
    intro j
    by_cases hj : j < n
    · rw [List.getElem?_take, if_pos hj, List.getElem?_drop, h j l[j] (List.getElem?_eq_getElem (by omega)), List.getElem?_eq_getElem (by omega)]
    · rw [List.getElem?_take, if_neg hj, List.getElem?_eq_none (by omega)]
  rw [cellP_agg, e]; simp [hlen]
theorem cellP_3 {row : List Value} {o : Nat} {x y z : Value} (h0 : row[o]? = some x) (h1 : row[o + 1]? = some y) (h2 : row[o + 2]? = some z) (k : VP) : cellP row o (some 3) k = k (.agg ⟨[x, y, z]⟩) :=
  cellP_list (l := [x, y, z]) rfl (fun j v hv => by
    match j, hv with
    | 0, hv => simp at hv; subst hv; simpa using h0
    | 1, hv => simp at hv; subst hv; exact h1
    | 2, hv => simp at hv; subst hv; exact h2
    | j + 3, hv => simp at hv) k (by simp)
theorem cellP_lit {l : List Value} (k : VP) : cellP l 0 (some l.length) k = k (.agg ⟨l⟩) := by rw [cellP_agg]; simp
theorem cellP_lit2 (x y : Value) (k : VP) : cellP [x, y] 0 (some 2) k = k (.agg ⟨[x, y]⟩) := cellP_lit (l := [x, y]) k
theorem cellP_lit3 (x y z : Value) (k : VP) : cellP [x, y, z] 0 (some 3) k = k (.agg ⟨[x, y, z]⟩) := cellP_lit (l := [x, y, z]) k
theorem putL_lit2 (a b x y : Value) : putL [a, b] 0 [x, y] = [x, y] := rfl
theorem putL_lit3 (a b c x y z : Value) : putL [a, b, c] 0 [x, y, z] = [x, y, z] := rfl

/-! Numbers in memory. -/
def u32s (es : List Nat) : List Value := es.map fun (e : Nat) => Value.int .u32 (e : Int)
def i64s (xs : List Int) : List Value := xs.map fun x => Value.int .i64 x
def Small (es : List Nat) : Prop := ∀ e ∈ es, e < 4294967296
theorem u32s_get {es : List Nat} {i e : Nat} (h : es[i]? = some e) : (u32s es)[i]? = some (.int .u32 (e : Int)) := by simp [u32s, h]
theorem i64s_get {xs : List Int} {i : Nat} {x : Int} (h : xs[i]? = some x) : (i64s xs)[i]? = some (.int .i64 x) := by simp [i64s, h]
theorem u32s_length (es : List Nat) : (u32s es).length = es.length := by simp [u32s]
theorem i64s_length (xs : List Int) : (i64s xs).length = xs.length := by simp [i64s]
theorem Small.get {es : List Nat} (h : Small es) {i e : Nat} (he : es[i]? = some e) : e < 4294967296 := h e (List.mem_of_getElem? he)
end Go.Clo

namespace Go.Clo

/-- A slice of n elements (c: their cells) that was made by append, in a block from lo on. -/
def Acc (lo : Nat) (H : Heap) (nx : Nat) (size : Nat) (v : Value) (n : Nat) (c : List Value) : Prop :=
  c.length = n * size ∧ ((n = 0 ∧ v = .slice none 0 0) ∨ ∃ b, lo ≤ b ∧ b < nx ∧ v = .slice (some ⟨b, 0, none⟩) n n ∧ getH H b = some (.cells c size))
theorem Acc.nil (lo : Nat) (H : Heap) (nx size : Nat) : Acc lo H nx size (.slice none 0 0) 0 [] := ⟨by simp, .inl ⟨rfl, rfl⟩⟩
theorem Acc.ext {lo : Nat} {H : Heap} {nx size : Nat} {v : Value} {n : Nat} {c : List Value} {H' : Heap} {nx' : Nat} (h : Acc lo H nx size v n c) (e : Ext H nx H' nx') : Acc lo H' nx' size v n c := by
  refine ⟨h.1, h.2.imp id ?_⟩
  rintro ⟨b, h1, h2, h3, h4⟩
  exact ⟨b, h1, Nat.lt_of_lt_of_le h2 e.le, h3, by rw [e.get b h2]; exact h4⟩
theorem Acc.sl {lo : Nat} {H : Heap} {nx size : Nat} {v : Value} {n : Nat} {c : List Value} (h : Acc lo H nx size v n c) : ∃ A, v = .slice A n n ∧ Sl H nx A c := by
  obtain ⟨hl, h⟩ := h
  rcases h with ⟨rfl, rfl⟩ | ⟨b, h1, h2, rfl, h4⟩
  · refine ⟨none, rfl, ?_⟩
    simp at hl; subst hl; exact Sl.nil _ _ _
  · refine ⟨_, rfl, fun i u hu => ⟨b, 0, c, rfl, h2, by simp [rowOf, h4, Blk.row], by simpa using hu⟩⟩

theorem bltrue {a b : Nat} (h : a ≤ b) : Nat.ble a b = true := Nat.ble_eq_true_of_le h
theorem blfalse {a b : Nat} (h : b < a) : Nat.ble a b = false := by
  cases hb : Nat.ble a b with
  | false => rfl
  | true => exact absurd (Nat.le_of_ble_eq_true hb) (by omega)
theorem beqtrue (a : Nat) : Nat.beq a a = true := by simp
theorem beqfalse {a b : Nat} (h : a ≠ b) : Nat.beq a b = false := by
  cases hb : Nat.beq a b with
  | false => rfl
  | true => exact absurd (Nat.eq_of_beq_eq_true hb) h

/-- What is appended: m elements, their cells l. -/
structure Src (H : Heap) (size : Nat) (x : Value) (m : Nat) (l : List Value) : Prop where
  len : lenA x = some m
  first : ∀ k : List Value → Prop, firstK H size m x False k = k l
  size : l.length = m * size
theorem src_new {H : Heap} {size b m cap : Nat} {l : List Value} {sl : Nat} (hg : getH H b = some (.cells l sl)) (hl : l.length = m * size) (hm : 0 < m * size) : Src H size (.slice (some ⟨b, 0, none⟩) m cap) m l := by
  refine ⟨rfl, fun k => ?_, hl⟩
  rw [firstK_slice _ _ _ _ _ _ _ _ hm, hg]
  simp only [Option.bind_some, Blk.row]
  simp [← hl]
theorem src_sl {H : Heap} {nx size : Nat} {A : Option Addr} {m cap : Nat} {l : List Value} (h : Sl H nx A l) (hl : l.length = m * size) (hm : 0 < m * size) : Src H size (.slice A m cap) m l := by
  obtain ⟨b, o, row, rfl, hb, hrow, hget⟩ := h.open (i := 0) (by omega)
  refine ⟨rfl, fun k => ?_, hl⟩
  rw [firstK_slice _ _ _ _ _ _ _ _ hm]
  unfold rowOf at hrow
  rw [hrow]
  have := cellP_list (row := row) (o := o) (n := m * size) hl hget (fun v => match v with | .agg a => k a.toList | _ => False) hm
  rw [cellP_agg] at this
  exact this

theorem wApp_acc {lo : Nat} {H : Heap} {nx size bytes : Nat} {v : Value} {n : Nat} {c : List Value} {x : Value} {m : Nat} {l : List Value} {H0 : Heap} {k : EP} (hsz : 0 < size) (hA : Acc lo H nx size v n c) (hx : Src H size x m l) (hm : 0 < m) (ho : oneCells l = true)
    (hb1 : (2 * (n + m) + 1000) * bytes ≤ 281474976710656) (hb2 : n + m ≤ 1000000000) (hE : Ext H0 lo H nx) (hlo : lo ≤ nx)
    (hk : ∀ v' H', Acc lo H' (nx + 1) size v' (n + m) (c ++ l) → Ext H0 lo H' (nx + 1) → (∀ i, i < nx → (∀ A n' c', v = .slice (some A) n' c' → A.block ≠ i) → getH H' i = getH H i) → k v' H' (nx + 1)) : wApp v x size bytes H nx k := by
  obtain ⟨hl, hA⟩ := hA
  have hlen : (c ++ l).length = (n + m) * size := by rw [List.length_append, hl, hx.size, Nat.add_mul]
  unfold wApp appK
  rcases hA with ⟨rfl, rfl⟩ | ⟨b, h1, h2, rfl, h4⟩
  · have hc : c = [] := by simp at hl; exact hl
    subst hc
    rw [hx.len]
    dsimp only
    rw [forceN_eq, bltrue hb1, bltrue hb2]
    simp only [Bool.and_self, cond_true]
    rw [hx.first, ho, blfalse (show 0 < 0 + m by omega)]
    simp only [cond_true, cond_false]
    show spine ([] ++ l) _
    rw [spine_eq]
    have e : ([] ++ l).length = (0 + m) * size := hlen
    rw [e, beqtrue]
    simp only [cond_true, appOut, appNew]
    rw [forceN_eq, forceN_eq, hsK_eq]
    refine hk _ _ ⟨hlen, .inr ⟨nx, hlo, by omega, rfl, getH_same _ _ _⟩⟩ (hE.new _ hlo (by omega)) fun i hi _ => getH_ne _ (by omega)
  · rw [hx.len]
    dsimp only
    rw [forceN_eq, bltrue hb1, bltrue hb2]
    simp only [Bool.and_self, cond_true]
    rw [hx.first, ho, blfalse (show n < n + m by omega)]
    simp only [cond_true, cond_false]
    have hold : ∀ k : List Value → Prop, firstK H size n (.slice (some ⟨b, 0, none⟩) n n) False k = k c := by
      intro k
      rcases Nat.eq_zero_or_pos n with h0 | h0
      · subst h0
        simp at hl; subst hl
        unfold firstK rowK
        dsimp only
        rw [getB_eq, h4]
        simp only [Option.elim_some, Nat.zero_mul, takeN]
        exact spine_eq _ _
      · exact (src_new h4 hl (Nat.mul_pos h0 hsz)).first k
    rw [hold, spine_eq, hlen, beqtrue]
    simp only [cond_true, appOut]
    rw [getB_eq, h4]
    simp only [Option.elim_some]
    have hls : looseO (.cells c size) 0 n size = some true := by
      simp only [looseO]
      rw [beqfalse (show size ≠ 0 by omega), beqtrue]
      simp only [cond_false, cond_true]
      rw [hl, Nat.zero_add, beqtrue]
    rw [hls]
    dsimp only
    rw [hsK_eq]
    simp only [appNew]
    rw [forceN_eq, forceN_eq, hsK_eq]
    refine hk _ _ ⟨hlen, .inr ⟨nx, hlo, by omega, rfl, getH_same _ _ _⟩⟩ ((hE.new _ h1 (Nat.le_refl _)).new _ hlo (by omega)) fun i hi hne => ?_
    rw [getH_ne _ (by omega), getH_ne _ (fun h => hne _ _ _ rfl h.symm)]
end Go.Clo

namespace Go.Clo

/-- Code that defers once, on its way and at its top level. -/
inductive DC where
  | pre (a : C) (b : DC)
  | post (a : DC) (b : C)
  | dfr (l : List S) (x : X)

def deferV (o : Oper) : Option Operand :=
  match o.guard, o.dst, o.op with
  | none, none, .defer c => (match c.callee, c.args.toList with
    | .value f, [] => some f
    | _, _ => none)
  | _, _, _ => none
theorem deferV_inv {o : Oper} {f : Operand} (h : deferV o = some f) : o.guard = none ∧ o.dst = none ∧ ∃ c, o.op = .defer c ∧ c.callee = .value f ∧ c.args = #[] := by
  unfold deferV at h
  split at h
  · rename_i c h1 h2 h3
    split at h
    · rename_i f' h4 h5; cases h
      exact ⟨h1, h2, c, h3, h4, Array.toList_inj.1 (by simpa using h5)⟩
    · cases h
  · cases h

noncomputable def regDC (P : Program) (n : Nat) (ops : Array Oper) (draw : Bool) : Option DC :=
  match draw, ops.toList.getLast? with
  | false, some o => (match deferV o with
    | some f => (match compX n f, compSs P n ops.toList ops.toList.dropLast with
      | some x, some l => some (.dfr l x)
      | _, _ => none)
    | none => none)
  | _, _ => none
noncomputable def seqDC (da db : Option DC) (ca cb : Option C) : Option DC :=
  match da with
  | some a => (match cb with
    | some b => some (.post a b)
    | none => none)
  | none => (match db with
    | some b => (match ca with
      | some a => some (.pre a b)
      | none => none)
    | none => none)
noncomputable def compDC (P : Program) (n : Nat) (c : Code) : Option DC :=
  @Code.rec (fun _ => Option DC) none (fun _ ops draw => regDC P n ops draw) (fun a b da db => seqDC da db (compC P n a) (compC P n b))
    (fun _ _ _ _ _ => none) (fun _ _ _ => none) (fun _ _ => none) (fun _ _ _ _ _ _ => none) (fun _ => none) (fun _ _ => none) (fun _ => none) (fun _ => none) none (fun _ => none) c
def isFn : Value → Bool
  | .func (.func _) _ _ => true
  | _ => false
theorem isFn_inv {v : Value} (h : isFn v = true) : ∃ g x y, v = .func (.func g) x y := by
  unfold isFn at h
  split at h
  · exact ⟨_, _, _, rfl⟩
  · cases h

abbrev DfK (β : Type) := Value → K β
noncomputable def execD {β : Type} (c : DC) : Program → Nat → CallT β → ChkT β → FixT β → β → Ev → Heap → Nat → DfK β → DfK β → β :=
  @DC.rec (fun _ => Program → Nat → CallT β → ChkT β → FixT β → β → Ev → Heap → Nat → DfK β → DfK β → β)
    (fun a _ b P d call chk fx z T H nx k r => execC a P d call chk fx z T H nx (fun T H nx => b P d call chk fx z T H nx k r) (fun _ _ _ _ => z) (fun _ _ _ => z))
    (fun _ b a P d call chk fx z T H nx k r => a P d call chk fx z T H nx (fun v T H nx => execC b P d call chk fx z T H nx (k v) (fun _ _ _ _ => z) (r v)) r)
    (fun l x P d call _ _ z T H nx k _ => (rgC β P d l).run call z (fun T H nx => cond (isFn ((lx x).run T)) (k ((lx x).run T) T H nx) z) T H nx) c

/-- What is deferred. -/
def DEnd (F : FM) (v : Value) (ds : List Deferred) : Prop := ∃ g x x' y y', v = .func (.func g) x y ∧ VL F x.toList x'.toList ∧ VL F y.toList y'.toList ∧ ds = [{ target := .fn (.func g) y', args := x' }]
theorem DEnd.mono {F F' : FM} (hF : F.le F') {v : Value} {ds : List Deferred} (h : DEnd F v ds) : DEnd F' v ds := by
  obtain ⟨g, x, x', y, y', e, h1, h2, h3⟩ := h
  exact ⟨g, x, x', y, y', e, h1.mono hF, h2.mono hF, h3⟩
def DcOK (P : Program) (d n : Nat) (c : Code) (T : Ev) (H : Heap) (nx : Nat) (o : Ox) (v : Value) (T' : Ev) (H' : Heap) (nx' : Nat) : Prop :=
  ∀ (F : FM) (a : Act) (w : World) (Q : Exit → Act → World → Prop), TR d F T n a.tmps → HR F H nx w → a.defers = [] →
    (∀ F' a' w', TR d F' T' n a'.tmps → Stp F H nx w F' H' nx' w' → DEnd F' v a'.defers → Q o.exit a' w') → c.wp P Q a w

theorem last_at {l q : List Oper} {o : Oper} (h : l = q ++ [o]) : l[q.length]? = some o := by subst h; simp

section
variable {β : Type} {P : Program} {d n : Nat}

theorem dfr_sound (hn : n ≤ 2 ^ d) {call : CallT β} (hcall : CallOK P call) (z : β) {id : Nat} {ops : Array Oper} {o : Oper} {f : Operand} {x : X} {l : List S}
    (hlast : ops.toList.getLast? = some o) (hd : deferV o = some f) (hx : compX n f = some x) (hl : compSs P n ops.toList ops.toList.dropLast = some l)
    (T : Ev) (H : Heap) (nx : Nat) (k : DfK β) (hw : WF d T) :
    (rgC β P d l).run call z (fun T H nx => cond (isFn ((lx x).run T)) (k ((lx x).run T) T H nx) z) T H nx = z ∨ ∃ v T' H' nx', (rgC β P d l).run call z (fun T H nx => cond (isFn ((lx x).run T)) (k ((lx x).run T) T H nx) z) T H nx = k v T' H' nx' ∧ WF d T' ∧
      DcOK P d n (.region id ops false) T H nx .n v T' H' nx' := by
  rw [rg_eq]
  have hne : ops.toList = ops.toList.dropLast ++ [o] := by
    obtain ⟨ys, hys⟩ := List.getLast?_eq_some_iff.1 hlast
    rw [hys]; simp
  have hlen : ops.size = ops.toList.dropLast.length + 1 := by
    have := congrArg List.length hne
    simpa using this
  rcases ops_seg (ops := ops.toList) hn hcall z (fun T H nx => cond (isFn ((lx x).run T)) (k ((lx x).run T) T H nx) z) ops.toList.dropLast l 0 hl (fun j hj => by
    rw [Nat.zero_add]; conv => rhs; rw [hne]
    rw [List.getElem?_append_left hj]) T H nx with h | ⟨T', H', nx', h, hw', hp⟩
  · exact .inl h
  · rw [h]
    cases hfn : isFn ((lx x).run T') with
    | false => exact .inl rfl
    | true =>
      obtain ⟨g, x1, y1, hg⟩ := isFn_inv hfn
      refine .inr ⟨_, T', H', nx', rfl, (hw' hw).1, fun F a w Q ht hr hde hk => wp_region ?_⟩
      have e : List.range ops.size = List.range' 0 ops.toList.dropLast.length ++ [ops.toList.dropLast.length] := by
        rw [hlen, List.range_eq_range', List.range'_concat]; simp
      rw [e]
      have := hp F a w Q [ops.toList.dropLast.length] ht hr fun F' a' w' ht' hst hdf => ?_
      · simpa using this
      · rw [wpOps_cons]
        unfold wpOp
        obtain ⟨g1, g2, c, ho, hc, ha⟩ := deferV_inv hd
        have hio : ops.toList.toArray[ops.toList.dropLast.length]? = some o := by
          rw [List.getElem?_toArray]; exact last_at hne
        simp only [hio]
        have hwant : Region.wanted o (yielded ops.toList.toArray a'.tmps) = true := by simp [Region.wanted, g1]
        rw [if_pos hwant]
        refine .inl ?_
        have hv := ht'.evX hx
        rw [ev_lx, hg] at hv
        generalize hq : a'.eval f = q at hv
        cases hv with
        | @func _ _ x2 _ y2 e1 e2 e3 e4 =>
          unfold Oper.wp
          have hrun : (execOp a'.eval o).run P w' = .ok (.defer { target := .fn (.func g) y2, args := x2 }) w' := by
            simp only [execOp, ho, resolve, hc, hq, ha, Deferred.ofValue, Sem.run_bind, Sem.run_pure, Result.andThen_ok]
            simp
          rw [hrun]
          simp only [Oper.upon, g2]
          unfold wpOps
          refine hk F' _ w' (by simpa [Act.put] using ht') hst ?_
          refine ⟨g, x1, x2, y1, y2, hg, VL.ofArr e1 e2, VL.ofArr e3 e4, ?_⟩
          simp [Act.put, hdf, hde]

def Ox.goD {β : Type} (k r : DfK β) : Ox → DfK β
  | .n => k
  | .x _ => k
  | .r => r
theorem execD_sound (hm : P.follows .mixedOrders = true) (hn : n ≤ 2 ^ d) {call : CallT β} (hcall : CallOK P call) {chk : ChkT β} (hchk : ChkOK P chk) {fx : FixT β} (hfx : FixOK fx) (z : β) : ∀ (code : Code) (c : DC), compDC P n code = some c → ∀ (T : Ev) (H : Heap) (nx : Nat) (k r : DfK β), WF d T →
    execD c P d call chk fx z T H nx k r = z ∨ ∃ o v T' H' nx', (o = Ox.n ∨ o = Ox.r) ∧ execD c P d call chk fx z T H nx k r = o.goD k r v T' H' nx' ∧ WF d T' ∧ DcOK P d n code T H nx o v T' H' nx' := by
  intro code
  induction code with
  | region id ops draw =>
    intro c hc T H nx k r hw
    change regDC P n ops draw = some c at hc
    unfold regDC at hc
    split at hc
    · rename_i o ho
      split at hc
      · rename_i f hf
        split at hc
        · rename_i x l hx hl
          cases hc
          rcases dfr_sound hn hcall z (id := id) ho hf hx hl T H nx k hw with h | ⟨v, T', H', nx', h, hw', hp⟩
          · exact .inl h
          · exact .inr ⟨.n, v, T', H', nx', .inl rfl, h, hw', hp⟩
        · cases hc
      · cases hc
    · cases hc
  | seq a b iha ihb =>
    intro c hc T H nx k r hw
    change seqDC (compDC P n a) (compDC P n b) (compC P n a) (compC P n b) = some c at hc
    unfold seqDC at hc
    split at hc
    · rename_i a' ha
      split at hc
      · rename_i b' hb
        cases hc
        have e : execD (.post a' b') P d call chk fx z T H nx k r = execD a' P d call chk fx z T H nx (fun v T H nx => execC b' P d call chk fx z T H nx (k v) (fun _ _ _ _ => z) (r v)) r := rfl
        rw [e]
        rcases iha a' ha T H nx (fun v T H nx => execC b' P d call chk fx z T H nx (k v) (fun _ _ _ _ => z) (r v)) r hw with h | ⟨o, v, T1, H1, nx1, ho, h, hw1, hok⟩
        · exact .inl h
        · rw [h]
          rcases ho with rfl | rfl
          · show execC b' P d call chk fx z T1 H1 nx1 (k v) (fun _ _ _ _ => z) (r v) = z ∨ ∃ o v' T' H' nx', (o = Ox.n ∨ o = Ox.r) ∧ execC b' P d call chk fx z T1 H1 nx1 (k v) (fun _ _ _ _ => z) (r v) = Ox.goD k r o v' T' H' nx' ∧ WF d T' ∧ DcOK P d n (a.seq b) T H nx o v' T' H' nx'
            rcases exec_sound hm hn hcall hchk hfx z b b' hb T1 H1 nx1 (k v) (fun _ _ _ _ => z) (r v) hw1 with h2 | ⟨o2, T2, H2, nx2, h2, hw2, hok2⟩
            · exact .inl h2
            · have fin : ∀ (hx : o2 = .n ∨ o2 = .r), DcOK P d n (a.seq b) T H nx o2 v T2 H2 nx2 := by
                intro hx F ac w Q ht hr hde hk
                refine wp_seq (hok F ac w _ ht hr hde fun F' a' w' ht' hst hend => ?_)
                refine hok2 F' a' w' Q ht' hst.hr fun F2 a2 w2 ht2 hst2 hdf2 => ?_
                exact hk F2 a2 w2 ht2 (hst.trans hst2) (hdf2 ▸ hend.mono (hst2.fle hst.hr))
              cases o2 with
              | n => exact .inr ⟨.n, v, T2, H2, nx2, .inl rfl, h2, hw2, fin (.inl rfl)⟩
              | r => exact .inr ⟨.r, v, T2, H2, nx2, .inr rfl, h2, hw2, fin (.inr rfl)⟩
              | x id => exact .inl h2
          · refine .inr ⟨.r, v, T1, H1, nx1, .inr rfl, rfl, hw1, fun F ac w Q ht hr hde hk => wp_seq (hok F ac w _ ht hr hde fun F' a' w' ht' hst hend => hk F' a' w' ht' hst hend)⟩
      · cases hc
    · split at hc
      · rename_i b' hb
        split at hc
        · rename_i a' ha
          cases hc
          have e : execD (.pre a' b') P d call chk fx z T H nx k r = execC a' P d call chk fx z T H nx (fun T H nx => execD b' P d call chk fx z T H nx k r) (fun _ _ _ _ => z) (fun _ _ _ => z) := rfl
          rw [e]
          rcases exec_sound hm hn hcall hchk hfx z a a' ha T H nx (fun T H nx => execD b' P d call chk fx z T H nx k r) (fun _ _ _ _ => z) (fun _ _ _ => z) hw with h | ⟨o1, T1, H1, nx1, h, hw1, hok⟩
          · exact .inl h
          · rw [h]
            cases o1 with
            | x id => exact .inl rfl
            | r => exact .inl rfl
            | n =>
              show execD b' P d call chk fx z T1 H1 nx1 k r = z ∨ ∃ o v' T' H' nx', (o = Ox.n ∨ o = Ox.r) ∧ execD b' P d call chk fx z T1 H1 nx1 k r = Ox.goD k r o v' T' H' nx' ∧ WF d T' ∧ DcOK P d n (a.seq b) T H nx o v' T' H' nx'
              rcases ihb b' hb T1 H1 nx1 k r hw1 with h2 | ⟨o, v, T2, H2, nx2, ho, h2, hw2, hok2⟩
              · exact .inl h2
              · refine .inr ⟨o, v, T2, H2, nx2, ho, h2, hw2, fun F ac w Q ht hr hde hk => ?_⟩
                refine wp_seq (hok F ac w _ ht hr fun F' a' w' ht' hst hdf => ?_)
                exact hok2 F' a' w' Q ht' hst.hr (hdf.trans hde) fun F2 a2 w2 ht2 hst2 hend => hk F2 a2 w2 ht2 (hst.trans hst2) hend
        · cases hc
      · cases hc
  | _ => intro c hc; cases hc
end

/-! Functions and calls. -/

/-- What is known of a deferred closure: where nothing panics it changes nothing. -/
def DfrOK (P : Program) (dok : FuncId → Nat → Bool) : Prop :=
  ∀ g m, dok g m = true → Enters P g ∧ ∀ (args : Array Value) (w : World), args.size = m → CallsD P g args .returning w fun e u' w' => u' = .returning ∧ e = .returned (.tuple #[]) ∧ w' = w
structure CFD where
  n : Nat
  d : Nat
  body : DC
  res : List (X × Option (Option Nat))
noncomputable def cfnD (P : Program) (f : FuncId) : Option CFD :=
  match nth P.funcs.toList f with
  | some fn => match fn.body with
    | some c => match compDC P fn.ntmps c, compR P fn.ntmps fn.results.toList with
      | some body, some res => cond (Nat.ble (Nat.log2 fn.ntmps + 1) 8) (some ⟨fn.ntmps, Nat.log2 fn.ntmps + 1, body, res⟩) none
      | _, _ => none
    | none => none
  | none => none
noncomputable def retD {β : Type} (P : Program) (dok : FuncId → Nat → Bool) (res : List (X × Option (Option Nat))) (z : β) (k : Value → Heap → Nat → β) : DfK β := fun v T H nx =>
  match v with
  | .func (.func g) first cap => cond (dok g (first.size + cap.size)) (retK P res z k T H nx) z
  | _ => z
noncomputable def bodyDK {β : Type} (P : Program) (dok : FuncId → Nat → Bool) (call : CallT β) (chk : ChkT β) (fx : FixT β) (args : List Value) (H : Heap) (nx : Nat) (z : β) (k : Value → Heap → Nat → β) (n d : Nat) (body : DC) (res : List (X × Option (Option Nat))) : β :=
  cond (Nat.ble args.length n)
    (initT d args 0 .leaf fun T => execD body P d call chk fx z T H nx (retD P dok res z k) (retD P dok res z k)) z
noncomputable def callD {β : Type} (P : Program) (orc : Orc) (dok : FuncId → Nat → Bool) (n : Nat) : CallT β :=
  @Nat.rec (fun _ => CallT β) (fun _ _ _ _ z _ => z)
    (fun _ ih f args H nx z k => match orc f with
      | some o => (match o args H nx with
        | some (v, H, nx) => k v H nx
        | none => z)
      | none => match cfnD P f with
        | some ⟨n, d, body, res⟩ => bodyDK P dok ih (chkB P) (fixN 1000000) args H nx z k n d body res
        | none => match cfn P f with
          | some ⟨n, d, body, res⟩ => bodyK P ih (chkB P) (fixN 1000000) args H nx z k n d body res
          | none => z) n

section
variable {P : Program} {d n : Nat}

theorem bodyD_sound {β : Type} (hm : P.follows .mixedOrders = true) {dok : FuncId → Nat → Bool} (hdok : DfrOK P dok) {f : FuncId} {fn : Func} {c : Code} {body : DC} {res : List (X × Option (Option Nat))} (hf : P.funcs[f]? = some fn) (hname : (fn.name == "runtime.NumGoroutine") = false) (hb : fn.body = some c)
    (hc : compDC P fn.ntmps c = some body) (hres : compR P fn.ntmps fn.results.toList = some res) (hd : fn.ntmps ≤ 2 ^ d) (h8 : d ≤ 8) {call : CallT β} (hcall : CallOK P call) {chk : ChkT β} (hchk : ChkOK P chk) {fx : FixT β} (hfx : FixOK fx) (args : List Value) (H : Heap) (nx : Nat) (z : β) (k : Value → Heap → Nat → β) :
    bodyDK P dok call chk fx args H nx z k fn.ntmps d body res = z ∨ ∃ v H' nx', bodyDK P dok call chk fx args H nx z k fn.ntmps d body res = k v H' nx' ∧ CS P f args H nx v H' nx' := by
  unfold bodyDK
  cases hl : Nat.ble args.length fn.ntmps with
  | false => exact .inl rfl
  | true =>
    have hl := Nat.le_of_ble_eq_true hl
    simp only [cond_true]
    rw [initT_eq]
    have wl : WF d (.leaf : Tree Value) := h8
    have hw := fillT_wf d args 0 .leaf wl
    rcases execD_sound hm hd hcall hchk hfx z c body hc _ H nx (retD P dok res z k) (retD P dok res z k) hw with h | ⟨o, v, T', H', nx', ho, h, hw', hok⟩
    · exact .inl h
    · rw [h]
      have h : Ox.goD (retD P dok res z k) (retD P dok res z k) o v T' H' nx' = retD P dok res z k v T' H' nx' := by rcases ho with rfl | rfl <;> rfl
      rw [h]
      unfold retD
      split
      · rename_i g first cap _
        cases hg : dok g (first.size + cap.size) with
        | false => exact .inl rfl
        | true =>
          obtain ⟨hen, hdc⟩ := hdok _ _ hg
          show retK P res z k T' H' nx' = z ∨ ∃ v H'' nx'', retK P res z k T' H' nx' = k v H'' nx'' ∧ CS P f args H nx v H'' nx''
          unfold retK
          rcases resK_sound (d := d) (T := T') (H := H') (nx := nx') z _ res hres (fun vs => forceV (tup vs) fun v => k v H' nx') with h2 | ⟨vs, h2, hok2⟩
          · exact .inl h2
          · rw [h2, forceV_eq]
            refine .inr ⟨tup vs, H', nx', rfl, ⟨fn, c, hf, hb, hname⟩, fun F args' w hr hv => ?_⟩
            refine calls_of_wp_defers hf hb (hok F _ w _ (TR_start hv hd h8 hl) hr rfl fun F' a' w' ht' hst hend => ?_)
            obtain ⟨vs', h3, h4⟩ := hok2 F' a'.tmps w' ht' hst.hr.hb
            obtain ⟨g', x, x', y, y', e1, e2, e3, e4⟩ := hend
            cases e1
            have hlen : (x' ++ y').size = first.size + cap.size := by
              have a := e2.length; have b := e3.length
              simp at a b ⊢; omega
            have hpost : Leaves P fn a'.tmps (fun e w' => ∃ v' F', e = .returned v' ∧ VR F' (tup vs) v' ∧ Stp F H nx w F' H' nx' w') a'.defers .returning w' := by
              rw [e4]
              refine leaves_cons (f := g) (args := x' ++ y') (by simp) ?_ ((hdc (x' ++ y') w' hlen).mono ?_)
              · simp only [invoke]; exact run_enter hen _ w'
              · rintro e u' w2 ⟨rfl, rfl, rfl⟩
                exact ⟨tup vs', results_run h3, tup vs', F', rfl, tup_vr h4, hst⟩
            rcases ho with rfl | rfl <;> exact hpost
      · exact .inl rfl

theorem callD_sound {β : Type} (hm : P.follows .mixedOrders = true) (hNG : NamesOK P) {orc : Orc} (ho : OrcOK P orc) {dok : FuncId → Nat → Bool} (hdok : DfrOK P dok) : ∀ n, CallOK (β := β) P (callD P orc dok n)
  | 0 => fun f args H nx z k => .inl rfl
  | n + 1 => by
    intro f args H nx z k
    show (match orc f with
      | some o => (match o args H nx with
        | some (v, H, nx) => k v H nx
        | none => z)
      | none => match cfnD P f with
        | some ⟨n', d, body, res⟩ => bodyDK P dok (callD P orc dok n) (chkB P) (fixN 1000000) args H nx z k n' d body res
        | none => match cfn P f with
          | some ⟨n', d, body, res⟩ => bodyK P (callD P orc dok n) (chkB P) (fixN 1000000) args H nx z k n' d body res
          | none => z) = z ∨ ∃ v H' nx', (match orc f with
      | some o => (match o args H nx with
        | some (v, H, nx) => k v H nx
        | none => z)
      | none => match cfnD P f with
        | some ⟨n', d, body, res⟩ => bodyDK P dok (callD P orc dok n) (chkB P) (fixN 1000000) args H nx z k n' d body res
        | none => match cfn P f with
          | some ⟨n', d, body, res⟩ => bodyK P (callD P orc dok n) (chkB P) (fixN 1000000) args H nx z k n' d body res
          | none => z) = k v H' nx' ∧ _
    cases hof : orc f with
    | some o =>
      dsimp only
      cases hoo : o args H nx with
      | none => exact .inl rfl
      | some r => obtain ⟨v, H', nx'⟩ := r; exact .inr ⟨v, H', nx', rfl, ho f o hof _ _ _ _ _ _ hoo⟩
    | none =>
      dsimp only
      cases hcd : cfnD P f with
      | some r =>
        unfold cfnD at hcd
        rw [nth_eq] at hcd
        cases hf : P.funcs.toList[f]? with
        | none => simp [hf] at hcd
        | some fn =>
          simp only [hf] at hcd
          have hf' : P.funcs[f]? = some fn := by simpa using hf
          cases hb : fn.body with
          | none => simp [hb] at hcd
          | some c =>
            simp only [hb] at hcd
            cases hc : compDC P fn.ntmps c with
            | none => simp [hc] at hcd
            | some body =>
              cases hres : compR P fn.ntmps fn.results.toList with
              | none => simp [hc, hres] at hcd
              | some res =>
                simp only [hc, hres] at hcd
                cases h8 : Nat.ble (Nat.log2 fn.ntmps + 1) 8 with
                | false => simp [h8] at hcd
                | true =>
                  simp only [h8, cond_true, Option.some.injEq] at hcd; subst hcd
                  dsimp only
                  exact bodyD_sound hm hdok hf' (hNG f fn hf') hb hc hres (Nat.le_of_lt Nat.lt_log2_self) (Nat.le_of_ble_eq_true h8) (callD_sound hm hNG ho hdok n) (chkB_ok P) (fixN_ok _) args H nx z k
      | none =>
      dsimp only
      cases hcf : cfn P f with
      | none => exact .inl rfl
      | some r =>
        unfold cfn at hcf
        rw [nth_eq] at hcf
        cases hf : P.funcs.toList[f]? with
        | none => simp [hf] at hcf
        | some fn =>
          simp only [hf] at hcf
          have hf' : P.funcs[f]? = some fn := by simpa using hf
          cases hb : fn.body with
          | none => simp [hb] at hcf
          | some c =>
            simp only [hb] at hcf
            cases hc : compC P fn.ntmps c with
            | none => simp [hc] at hcf
            | some body =>
              cases hres : compR P fn.ntmps fn.results.toList with
              | none => simp [hc, hres] at hcf
              | some res =>
                simp only [hc, hres] at hcf
                cases h8 : Nat.ble (Nat.log2 fn.ntmps + 1) 8 with
                | false => simp [h8] at hcf
                | true =>
                  simp only [h8, cond_true, Option.some.injEq] at hcf; subst hcf
                  dsimp only
                  exact body_sound hm hf' (hNG f fn hf') hb hc hres (Nat.le_of_lt Nat.lt_log2_self) (Nat.le_of_ble_eq_true h8) (callD_sound hm hNG ho hdok n) (chkB_ok P) (fixN_ok _) args H nx z k

/-- ████ WHAT A RUN SAYS, FROM WHATEVER HEAP. ████ -/
theorem runD_cs (hm : P.follows .mixedOrders = true) (hNG : NamesOK P) {orc : Orc} (ho : OrcOK P orc) {dok : FuncId → Nat → Bool} (hdok : DfrOK P dok) {m : Nat} {f : FuncId} {args : List Value} {H : Heap} {nx : Nat} {v : Value} {H' : Heap} {nx' : Nat}
    (hr : callD (β := Option (Value × Heap × Nat)) P orc dok m f args H nx none (fun v H nx => some (v, H, nx)) = some (v, H', nx')) : CS P f args H nx v H' nx' := by
  rcases callD_sound (β := Option (Value × Heap × Nat)) hm hNG ho hdok m f args H nx none (fun v H nx => some (v, H, nx)) with h | ⟨v2, H2, nx2, h, hcs⟩
  · rw [h] at hr; cases hr
  · rw [h] at hr; cases hr; exact hcs
/-- A run from no heap, of which the result alone is looked at. -/
noncomputable def runDv (P : Program) (orc : Orc) (dok : FuncId → Nat → Bool) (m : Nat) (f : FuncId) (args : List Value) : Option Value :=
  callD P orc dok m f args .leaf 0 none fun v _ _ => some v
theorem runD_calls (hm : P.follows .mixedOrders = true) (hNG : NamesOK P) {orc : Orc} (ho : OrcOK P orc) {dok : FuncId → Nat → Bool} (hdok : DfrOK P dok) {m : Nat} {f : FuncId} {args : List Value} {v : Value} (hr : runDv P orc dok m f args = some v) (ha : args.all flat1 = true) (hv : flat v = true) (w : World) (hgw : GlW w) :
    Calls P f args.toArray w fun e w' => e = .returned v ∧ RowKit.Below w.heap.size w w' := by
  unfold runDv at hr
  rcases callD_sound (β := Option Value) hm hNG ho hdok m f args .leaf 0 none (fun v _ _ => some v) with h | ⟨v', H', nx', h, hcs⟩
  · rw [h] at hr; cases hr
  · rw [h] at hr; cases hr
    have h0 : HR (fun _ => none) .leaf 0 w :=
      ⟨fun i b hi => by omega, fun i j bi bj ti tj hi => by omega, fun _ _ => rfl, fun i _ => getH_leaf i, ⟨hgw, fun x hx ⟨i, _, _, hi, _⟩ => by omega⟩⟩
    refine (hcs.2 (fun _ => none) args w h0 (flatL_refl _ args ha)).mono fun e w' ⟨v', F', he, hvr, hst⟩ => ?_
    refine ⟨by rw [he, flat_eq hvr hv], hst.os, hst.tape, hst.output, hst.size, fun b hb => hst.frame b hb fun ⟨i, _, _, hi, _⟩ => by omega⟩
end
end Go.Clo
