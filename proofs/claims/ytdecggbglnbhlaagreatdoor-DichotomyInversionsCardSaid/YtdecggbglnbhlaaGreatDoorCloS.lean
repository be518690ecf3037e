/-
  The executor as a claim: what the claim of a function's code says of its calls.
-/
import Derived.Test.YtdecggbglnbhlaaGreatDoorCloR
set_option linter.unusedSimpArgs false
set_option linter.unusedVariables false
set_option linter.unusedSectionVars false
namespace Go.Clo

theorem eraseG_dsts : ∀ (gs : List G), dsts (eraseG gs) = dstsG gs
  | [] => rfl
  | (g, l) :: gs => by
    have app : ∀ (a b : List S), dsts (a ++ b) = dsts a ++ dsts b := by
      intro a b
      induction a with
      | nil => rfl
      | cons s a ih => simp [dsts, ih]
    have mp : ∀ (a : List S), dsts (a.map (guardS g)) = dsts a := by
      intro a
      induction a with
      | nil => rfl
      | cons s a ih => simp [dsts, ih, guardS]
    simp only [eraseG, dstsG]
    rw [app, mp, eraseG_dsts gs]

section
variable {P : Program} {d n : Nat}
/-- What marked code comes to, where its claim is true. -/
theorem wD_sound (hm : P.follows .mixedOrders = true) (hn : n ≤ 2 ^ d) : ∀ (code : Code) (c : D), compC P n code = some c.erase → c.ok n d = true → ∀ (T : Tree Value) (H : Heap) (nx : Nat) (k : K Prop) (x : Nat → K Prop) (r : K Prop), WF d T → wD P d c T H nx k x r →
    ∃ o T' H' nx', Ox.go k x r o T' H' nx' ∧ WF d T' ∧ Agr n c.writes T T' ∧ CodeOK P d n code T H nx o T' H' nx' := by
  intro code
  induction code with
  | skip =>
    intro c hc hok T H nx k x r hw hk
    simp only [compC, Option.some.injEq] at hc
    cases c <;> simp [D.erase] at hc
    exact ⟨.n, T, H, nx, hk, hw, Agr.refl _ _ _, fun F a w Q ht hr hk => wp_skip (hk F a w ht (Stp.refl hr) rfl)⟩
  | label l =>
    intro c hc hok T H nx k x r hw hk
    simp only [compC, Option.some.injEq] at hc
    cases c <;> simp [D.erase] at hc
    exact ⟨.n, T, H, nx, hk, hw, Agr.refl _ _ _, fun F a w Q ht hr hk => wp_label (hk F a w ht (Stp.refl hr) rfl)⟩
  | exit id =>
    intro c hc hok T H nx k x r hw hk
    simp only [compC, Option.some.injEq] at hc
    cases c <;> simp [D.erase] at hc
    subst hc
    exact ⟨.x id, T, H, nx, hk, hw, Agr.refl _ _ _, fun F a w Q ht hr hk => wp_exit (hk F a w ht (Stp.refl hr) rfl)⟩
  | ret =>
    intro c hc hok T H nx k x r hw hk
    simp only [compC, Option.some.injEq] at hc
    cases c <;> simp [D.erase] at hc
    exact ⟨.r, T, H, nx, hk, hw, Agr.refl _ _ _, fun F a w Q ht hr hk => wp_ret (hk F a w ht (Stp.refl hr) rfl)⟩
  | goto l => intro c hc; simp [compC] at hc
  | refuse why => intro c hc; simp [compC] at hc
  | rangeFunc f ps as b _ _ => intro c hc; simp [compC] at hc
  | region id ops draw =>
    intro c hc hok T H nx k x r hw hk
    simp only [compC] at hc
    cases hl : compSs P n ops.toList ops.toList with
    | none => simp [hl] at hc
    | some l =>
      simp only [hl] at hc
      cases draw with
      | false =>
        simp only [Option.some.injEq] at hc
        cases c <;> simp [D.erase] at hc
        rename_i gs hint
        subst hc
        obtain ⟨T', H', nx', hk', hw', hg', hp⟩ := gops_sound (d := d) hn k gs hint ops.toList 0 hl (fun j _ => by simp) hok T H nx hw hk
        refine ⟨.n, T', H', nx', hk', hw', hg', fun F a w Q ht hr hk => wp_region ?_⟩
        have := hp F a w Q ht hr hk
        simpa [List.range_eq_range'] using this
      | true =>
        cases hs : slotsOk (masks ops.toList) ops.toList ops.toList 0 with
        | false => simp [hs] at hc
        | true =>
          simp only [hs, cond_true, Option.some.injEq] at hc
          cases c <;> simp [D.erase] at hc
          rename_i ms gs hint
          obtain ⟨rfl, rfl⟩ := hc
          simp only [wD] at hk
          rw [forceN_eq, compSs_len hl] at hk
          obtain ⟨rc, T', h1, hall, hw', hT', h5⟩ := gdraw_run (N := nx) (H0 := H) (n0 := nx + ops.toList.length) (T0 := T) hn _ gs hint ops.toList [] T hl (by simp) hok trivial hw (fun t _ => rfl) hk
          rcases chkP_ok P d n ops.toList nx H rc (mergeK (masks ops.toList) nx (esR rc) (hR H rc) (fun H => k T' H (nR (nx + ops.toList.length) rc)) (asR rc)) False with h | ⟨h, hrs⟩
          · rw [h] at h5; exact h5.elim
          · rw [h, merge_eq] at h5
            refine ⟨.n, T', _, _, h5, hw', ?_, fun F a w Q ht hr hk => ?_⟩
            · have hv : Agr n (dsts (eraseG gs)) T T' := fun j hj hne => by rw [hT' j hj]; exact valR_other (compSs_dsts hl) hne
              rw [eraseG_dsts] at hv; exact hv
            · have := draw_core hm hs hn (by simpa using h1) hall hw' hT' hrs id F a w Q ht hr hk
              simpa using this
  | seq a b iha ihb =>
    intro c hc hok T H nx k x r hw hk
    simp only [compC] at hc
    cases ha : compC P n a with
    | none => simp [ha] at hc
    | some ca => cases hb : compC P n b with
      | none => simp [ha, hb] at hc
      | some cb =>
        simp only [ha, hb, Option.some.injEq] at hc
        cases c <;> simp only [D.erase, C.seq.injEq, reduceCtorEq] at hc
        · rename_i da db
          obtain ⟨rfl, rfl⟩ := hc
          simp only [D.ok, Bool.and_eq_true] at hok
          obtain ⟨o, T1, H1, nx1, h, hw1, hg1, hok1⟩ := iha da ha hok.1 T H nx (fun T H nx => wD P d db T H nx k x r) x r hw hk
          cases o with
          | n =>
            obtain ⟨o2, T2, H2, nx2, h2, hw2, hg2, hok2⟩ := ihb db hb hok.2 T1 H1 nx1 k x r hw1 h
            refine ⟨o2, T2, H2, nx2, h2, hw2, hg1.trans hg2, fun F ac w Q ht hr hk => wp_seq (hok1 F ac w _ ht hr fun F' a' w' ht' hst hdf => ?_)⟩
            exact hok2 F' a' w' Q ht' hst.hr fun F2 a2 w2 ht2 hst2 hdf2 => hk F2 a2 w2 ht2 (hst.trans hst2) (hdf2.trans hdf)
          | x id => exact ⟨.x id, T1, H1, nx1, h, hw1, hg1.mono (fun j hj => List.mem_append_left _ hj), fun F ac w Q ht hr hk => wp_seq (hok1 F ac w _ ht hr fun F' a' w' ht' hst hdf => hk F' a' w' ht' hst hdf)⟩
          | r => exact ⟨.r, T1, H1, nx1, h, hw1, hg1.mono (fun j hj => List.mem_append_left _ hj), fun F ac w Q ht hr hk => wp_seq (hok1 F ac w _ ht hr fun F' a' w' ht' hst hdf => hk F' a' w' ht' hst hdf)⟩
        · rename_i ws ds da db
          obtain ⟨rfl, rfl⟩ := hc
          simp only [D.ok, Bool.and_eq_true] at hok
          obtain ⟨⟨⟨⟨q1, q2⟩, q3⟩, q4⟩, q5⟩ := hok
          have hl := allLt_mem q2
          obtain ⟨o, T1, H1, nx1, h, hw1, hg1, hok1⟩ := iha da ha q4 T H nx (fun T1 H nx => getsK T1 ws fun L => poisK d ds T fun T => setsK d L ws 0 T fun T => wD P d db T H nx k x r) x r hw hk
          cases o with
          | n =>
            simp only [Ox.go] at h
            rw [getsK_eq, poisK_eq, setsK_eq] at h
            obtain ⟨o2, T2, H2, nx2, h2, hw2, hg2, hok2⟩ := ihb db hb q5 _ H1 nx1 k x r (setT_wf (poisT_wf hw)) h
            refine ⟨o2, T2, H2, nx2, h2, hw2, ?_, fun F ac w Q ht hr hk => wp_seq (hok1 F ac w _ ht hr fun F' a' w' ht' hst hdf => ?_)⟩
            · exact ((agr_join hn hw hl q3).trans hg2).mono fun j hj => List.mem_append_right _ hj
            · exact hok2 F' a' w' Q (TR.join hn hw ht' hg1 (subL_mem q1) hl q3) hst.hr fun F2 a2 w2 ht2 hst2 hdf2 => hk F2 a2 w2 ht2 (hst.trans hst2) (hdf2.trans hdf)
          | x id => exact ⟨.x id, T1, H1, nx1, h, hw1, hg1.mono (fun j hj => List.mem_append_left _ hj), fun F ac w Q ht hr hk => wp_seq (hok1 F ac w _ ht hr fun F' a' w' ht' hst hdf => hk F' a' w' ht' hst hdf)⟩
          | r => exact ⟨.r, T1, H1, nx1, h, hw1, hg1.mono (fun j hj => List.mem_append_left _ hj), fun F ac w Q ht hr hk => wp_seq (hok1 F ac w _ ht hr fun F' a' w' ht' hst hdf => hk F' a' w' ht' hst hdf)⟩
  | cond v a b iha ihb =>
    intro c hc hok T H nx k x r hw hk
    simp only [compC] at hc
    cases hv : compX n v with
    | none => simp [hv] at hc
    | some cv => cases ha : compC P n a with
      | none => simp [hv, ha] at hc
      | some ca => cases hb : compC P n b with
        | none => simp [hv, ha, hb] at hc
        | some cb =>
          simp only [hv, ha, hb, Option.some.injEq] at hc
          cases c <;> simp only [D.erase, C.cond.injEq, reduceCtorEq] at hc
          rename_i y da db
          obtain ⟨rfl, rfl, rfl⟩ := hc
          simp only [D.ok, Bool.and_eq_true] at hok
          simp only [wD] at hk
          rw [evK_eq] at hk
          unfold wIf at hk
          split at hk
          · rename_i t hvt
            rw [ifK_eq] at hk
            have hev : ∀ (F : FM) (ac : Act), TR d F T n ac.tmps → ac.eval v = .bool t := fun F ac ht => by
              have := ht.evX hv
              rw [hvt] at this
              exact this.bool_inv
            cases t with
            | true =>
              obtain ⟨o, T1, H1, nx1, h, hw1, hg1, hok1⟩ := iha da ha hok.1 T H nx k x r hw (by simpa using hk)
              exact ⟨o, T1, H1, nx1, h, hw1, hg1.mono (fun j hj => List.mem_append_left _ hj), fun F ac w Q ht hr hk => wp_cond_true (hev F ac ht) (hok1 F ac w Q ht hr hk)⟩
            | false =>
              obtain ⟨o, T1, H1, nx1, h, hw1, hg1, hok1⟩ := ihb db hb hok.2 T H nx k x r hw (by simpa using hk)
              exact ⟨o, T1, H1, nx1, h, hw1, hg1.mono (fun j hj => List.mem_append_right _ hj), fun F ac w Q ht hr hk => wp_cond_false (hev F ac ht) (hok1 F ac w Q ht hr hk)⟩
          · exact hk.elim
  | block id a iha =>
    intro c hc hok T H nx k x r hw hk
    simp only [compC] at hc
    cases ha : compC P n a with
    | none => simp [ha] at hc
    | some ca =>
      simp only [ha, Option.map_some, Option.some.injEq] at hc
      cases c <;> simp only [D.erase, C.block.injEq, reduceCtorEq] at hc
      rename_i id2 da
      obtain ⟨rfl, rfl⟩ := hc
      obtain ⟨o, T1, H1, nx1, h, hw1, hg1, hok1⟩ := iha da ha hok T H nx k (fun id' T H nx => cond (Nat.beq id' id) (k T H nx) (x id' T H nx)) r hw hk
      cases o with
      | n => exact ⟨.n, T1, H1, nx1, h, hw1, hg1, fun F ac w Q ht hr hk => wp_block (hok1 F ac w _ ht hr fun F' a' w' ht' hst hdf => hk F' a' w' ht' hst hdf)⟩
      | r => exact ⟨.r, T1, H1, nx1, h, hw1, hg1, fun F ac w Q ht hr hk => wp_block (hok1 F ac w _ ht hr fun F' a' w' ht' hst hdf => hk F' a' w' ht' hst hdf)⟩
      | x id' =>
        simp only [Ox.go] at h
        cases hid : Nat.beq id' id with
        | true =>
          have e := Nat.eq_of_beq_eq_true hid
          subst e
          rw [hid] at h
          refine ⟨.n, T1, H1, nx1, h, hw1, hg1, fun F ac w Q ht hr hk => wp_block (hok1 F ac w _ ht hr fun F' a' w' ht' hst hdf => ?_)⟩
          simp only [Ox.exit, Exit.inBlock, if_true]
          exact hk F' a' w' ht' hst hdf
        | false =>
          have e : id' ≠ id := fun e => by subst e; simp at hid
          rw [hid] at h
          refine ⟨.x id', T1, H1, nx1, h, hw1, hg1, fun F ac w Q ht hr hk => wp_block (hok1 F ac w _ ht hr fun F' a' w' ht' hst hdf => ?_)⟩
          simp only [Ox.exit, Exit.inBlock, e, if_false]
          exact hk F' a' w' ht' hst hdf
  | scope a iha =>
    intro c hc hok T H nx k x r hw hk
    simp only [compC] at hc
    obtain ⟨o, T1, H1, nx1, h, hw1, hg1, hok1⟩ := iha c hc hok T H nx k x r hw hk
    refine ⟨o, T1, H1, nx1, h, hw1, hg1, fun F ac w Q ht hr hk => wp_scope_straight (hok1 F ac w _ ht hr fun F' a' w' ht' hst hdf => ?_)⟩
    cases o <;> exact hk F' a' w' ht' hst hdf
  | loop a iha =>
    intro c hc hok T H nx k x r hw hk
    simp only [compC] at hc
    cases ha : compC P n a with
    | none => simp [ha] at hc
    | some ca =>
      simp only [ha, Option.map_some, Option.some.injEq] at hc
      cases c <;> simp only [D.erase, C.loop.injEq, reduceCtorEq] at hc
      rename_i ws ds da
      subst hc
      simp only [D.ok, Bool.and_eq_true] at hok
      obtain ⟨⟨⟨q1, q2⟩, q3⟩, q4⟩ := hok
      have hl := allLt_mem q2
      simp only [wD] at hk
      rw [getsK_eq] at hk
      obtain ⟨m, hk⟩ := hk
      generalize hF : (fun (ih : JK) (L : List Value) (H : Heap) (nx : Nat) => poisK d ds T fun T => setsK d L ws 0 T fun T => wD P d da T H nx (fun T H nx => getsK T ws fun L => ih L H nx) x r) = Fn at hk
      -- the rounds
      have rounds : ∀ (m : Nat) (L : List Value) (H : Heap) (nx : Nat), wIter Fn m L H nx →
          ∃ (o : Ox) (T' : Tree Value) (H' : Heap) (nx' : Nat), o ≠ .n ∧ Ox.go k x r o T' H' nx' ∧ WF d T' ∧ Agr n ((ws ++ ds) ++ da.writes) T T' ∧
            ∀ (F : FM) (ac : Act) (w : World) (Q : Exit → Act → World → Prop), TR d F (setT d L ws 0 (poisT d ds T)) n ac.tmps → HR F H nx w →
              (∀ F' a' w', TR d F' T' n a'.tmps → Stp F H nx w F' H' nx' w' → a'.defers = ac.defers → Q o.exit a' w') → Code.rounds P a Q m ac w := by
        intro m
        induction m with
        | zero => intro L H nx h; exact h.elim
        | succ m ihm =>
          intro L H nx h
          have h' : Fn (wIter Fn m) L H nx := h
          rw [← hF] at h'
          rw [poisK_eq, setsK_eq] at h'
          obtain ⟨o, T1, H1, nx1, h1, hw1, hg1, hok1⟩ := iha da ha q4 _ H nx _ x r (setT_wf (poisT_wf hw)) h'
          cases o with
          | n =>
            simp only [Ox.go] at h1
            rw [getsK_eq, hF] at h1
            obtain ⟨o2, T2, H2, nx2, hne, h2, hw2, hg2, hok2⟩ := ihm _ H1 nx1 h1
            refine ⟨o2, T2, H2, nx2, hne, h2, hw2, hg2, fun F ac w Q ht hr hk => ?_⟩
            rw [rounds_succ]
            refine hok1 F ac w _ ht hr fun F' a' w' ht' hst hdf => ?_
            have ha2 : Agr n (ws ++ ds) T T1 := ((agr_join (L := L) hn hw hl q3).trans hg1).mono fun j hj => (List.mem_append.1 hj).elim id (subL_mem q1 j)
            exact hok2 F' a' w' Q (TR.join hn hw ht' ha2 (fun j hj => hj) hl q3) hst.hr fun F2 a2 w2 ht2 hst2 hdf2 => hk F2 a2 w2 ht2 (hst.trans hst2) (hdf2.trans hdf)
          | x id =>
            refine ⟨.x id, T1, H1, nx1, by simp, h1, hw1, (agr_join hn hw hl q3).trans hg1, fun F ac w Q ht hr hk => ?_⟩
            rw [rounds_succ]
            exact hok1 F ac w _ ht hr fun F' a' w' ht' hst hdf => hk F' a' w' ht' hst hdf
          | r =>
            refine ⟨.r, T1, H1, nx1, by simp, h1, hw1, (agr_join hn hw hl q3).trans hg1, fun F ac w Q ht hr hk => ?_⟩
            rw [rounds_succ]
            exact hok1 F ac w _ ht hr fun F' a' w' ht' hst hdf => hk F' a' w' ht' hst hdf
      obtain ⟨o, T1, H1, nx1, _, h, hw1, hg1, hok1⟩ := rounds m _ H nx hk
      refine ⟨o, T1, H1, nx1, h, hw1, hg1, fun F ac w Q ht hr hk => wp_loop_rounds m (hok1 F ac w Q ?_ hr hk)⟩
      exact TR.join hn hw ht (Agr.refl n (ws ++ ds) T) (fun j hj => hj) hl q3

/-- The claim of a function's body. -/
noncomputable def wBody (P : Program) (n d : Nat) (body : D) (res : List (X × Option (Option Nat))) (args : List Value) (H : Heap) (nx : Nat) (Q : Value → Heap → Nat → Prop) : Prop :=
  initT d args 0 .leaf fun T => wD P d body T H nx (retK P res False Q) (fun _ _ _ _ => False) (retK P res False Q)

/-- ████ WHAT THE CLAIM SAYS. ████ -/
theorem spec_of_body (hm : P.follows .mixedOrders = true) (hNG : NamesOK P) {f : FuncId} {body : D} {res : List (X × Option (Option Nat))} (hcf : cfn P f = some ⟨n, d, body.erase, res⟩) (hok : body.ok n d = true) {args : List Value} (hl : args.length ≤ n)
    {H : Heap} {nx : Nat} {Q : Value → Heap → Nat → Prop} (h : wBody P n d body res args H nx Q) : Ans P f args H nx Q := by
  unfold cfn at hcf
  rw [nth_eq] at hcf
  cases hf : P.funcs.toList[f]? with
  | none => simp [hf] at hcf
  | some fn =>
    simp only [hf] at hcf
    have hf' : P.funcs[f]? = some fn := by simpa using hf
    cases hb : fn.body with
    | none => simp [hb] at hcf
    | some c =>
      simp only [hb] at hcf
      cases hc : compC P fn.ntmps c with
      | none => simp [hc] at hcf
      | some cb =>
        cases hres : compR P fn.ntmps fn.results.toList with
        | none => simp [hc, hres] at hcf
        | some rs =>
          simp only [hc, hres, Option.some.injEq, CF.mk.injEq] at hcf
          obtain ⟨rfl, hd, rfl, rfl⟩ := hcf
          have hd' : fn.ntmps ≤ 2 ^ d := by rw [← hd]; exact Nat.le_of_lt Nat.lt_log2_self
          unfold wBody at h
          rw [initT_eq] at h
          have wl : WF d (.leaf : Tree Value) := by cases d <;> trivial
          have hw := fillT_wf d args 0 .leaf wl
          obtain ⟨o, T', H', nx', h1, hw', _, hok1⟩ := wD_sound hm hd' c body hc hok _ H nx _ _ _ hw h
          have fin : (o = .n ∨ o = .r) → retK P rs False Q T' H' nx' → Ans P f args H nx Q := by
            intro hx hret
            unfold retK at hret
            rcases resK_sound (d := d) (T := T') (H := H') (nx := nx') False _ rs hres (fun vs => forceV (tup vs) fun v => Q v H' nx') with h2 | ⟨vs, h2, hok2⟩
            · rw [h2] at hret; exact hret.elim
            · rw [h2, forceV_eq] at hret
              refine ⟨tup vs, H', nx', ⟨⟨fn, c, hf', hb, hNG f fn hf'⟩, fun F args' w hr hv => ?_⟩, hret⟩
              refine calls_of_wp hf' hb (hok1 F _ w _ (TR_start hv hd' hl) hr fun F' a' w' ht' hst hdf => ?_)
              obtain ⟨vs', h3, h4⟩ := hok2 F' a'.tmps w' ht' hst.hr.hb
              have hpost : a'.defers = [] ∧ ∃ v, (results fn a'.tmps).run P w' = .ok v w' ∧ (∃ v' F', Ending.returned v = .returned v' ∧ VR F' (tup vs) v' ∧ Stp F H nx w F' H' nx' w') :=
                ⟨hdf, tup vs', results_run h3, tup vs', F', rfl, tup_vr h4, hst⟩
              rcases hx with rfl | rfl <;> exact hpost
          cases o with
          | n => exact fin (.inl rfl) h1
          | x id => exact h1.elim
          | r => exact fin (.inr rfl) h1
end
end Go.Clo
