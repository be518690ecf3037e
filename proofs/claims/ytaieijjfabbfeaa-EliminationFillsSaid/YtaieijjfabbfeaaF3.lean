/-
  The executor as a claim: what the claim of a function's code says of its calls.
  The executor as a claim: what each operation asks, value by value.
  The executor as a claim: rules for proofs.
  The executor as a claim: sets of vertices as numbers.
  The executor as a claim: slices that read as lists.
  The executor as a claim: append to a slice that the function has made.
-/
import Derived.Test.YtaieijjfabbfeaaF2
set_option linter.unusedSimpArgs false
set_option linter.unusedVariables false
set_option linter.unusedSectionVars false
namespace Go.Clo

theorem eraseG_dsts : ∀ (gs : List G), dsts (eraseG gs) = dstsG gs
  | [] => rfl
  | (g, l) :: gs => by
    have app : ∀ (a b : List S), dsts (a ++ b) = dsts a ++ dsts b := by
      intro a b
      induction a with
      | nil => rfl
      | cons s a ih => simp [dsts, ih]
    have mp : ∀ (a : List S), dsts (a.map (guardS g)) = dsts a := by
      intro a
      induction a with
      | nil => rfl
      | cons s a ih => simp [dsts, ih, guardS]
    simp only [eraseG, dstsG]
    rw [app, mp, eraseG_dsts gs]

section
variable {P : Program} {d n : Nat}
/-- What marked code comes to, where its claim is true. -/
theorem wD_sound (hm : P.follows .mixedOrders = true) (hn : n ≤ 2 ^ d) : ∀ (code : Code) (c : D), compC P n code = some c.erase → c.ok n d = true → ∀ (T : Tree Value) (H : Heap) (nx : Nat) (k : K Prop) (x : Nat → K Prop) (r : K Prop), WF d T → wD P d c T H nx k x r →
    ∃ o T' H' nx', Ox.go k x r o T' H' nx' ∧ WF d T' ∧ Agr n c.writes T T' ∧ CodeOK P d n code T H nx o T' H' nx' := by
  intro code
  induction code with
  | skip =>
    intro c hc hok T H nx k x r hw hk
    simp only [compC, Option.some.injEq] at hc
    cases c <;> simp [D.erase] at hc
    exact ⟨.n, T, H, nx, hk, hw, Agr.refl _ _ _, fun F a w Q ht hr hk => wp_skip (hk F a w ht (Stp.refl hr) rfl)⟩
  | label l =>
    intro c hc hok T H nx k x r hw hk
    simp only [compC, Option.some.injEq] at hc
    cases c <;> simp [D.erase] at hc
    exact ⟨.n, T, H, nx, hk, hw, Agr.refl _ _ _, fun F a w Q ht hr hk => wp_label (hk F a w ht (Stp.refl hr) rfl)⟩
  | exit id =>
    intro c hc hok T H nx k x r hw hk
    simp only [compC, Option.some.injEq] at hc
    cases c <;> simp [D.erase] at hc
    subst hc
    exact ⟨.x id, T, H, nx, hk, hw, Agr.refl _ _ _, fun F a w Q ht hr hk => wp_exit (hk F a w ht (Stp.refl hr) rfl)⟩
  | ret =>
    intro c hc hok T H nx k x r hw hk
    simp only [compC, Option.some.injEq] at hc
    cases c <;> simp [D.erase] at hc
    exact ⟨.r, T, H, nx, hk, hw, Agr.refl _ _ _, fun F a w Q ht hr hk => wp_ret (hk F a w ht (Stp.refl hr) rfl)⟩
  | goto l => intro c hc; simp [compC] at hc
  | refuse why => intro c hc; simp [compC] at hc
  | rangeFunc f ps as b _ _ => intro c hc; simp [compC] at hc
  | region id ops draw =>
    intro c hc hok T H nx k x r hw hk
    simp only [compC] at hc
    cases hl : compSs P n ops.toList ops.toList with
    | none => simp [hl] at hc
    | some l =>
      simp only [hl] at hc
      cases draw with
      | false =>
        simp only [Option.some.injEq] at hc
        cases c <;> simp [D.erase] at hc
        rename_i gs hint
        subst hc
        obtain ⟨T', H', nx', hk', hw', hg', hp⟩ := gops_sound (d := d) hn k gs hint ops.toList 0 hl (fun j _ => by simp) hok T H nx hw hk
        refine ⟨.n, T', H', nx', hk', hw', hg', fun F a w Q ht hr hk => wp_region ?_⟩
        have := hp F a w Q ht hr hk
        simpa [List.range_eq_range'] using this
      | true =>
        cases hs : slotsOk (masks ops.toList) ops.toList ops.toList 0 with
        | false => simp [hs] at hc
        | true =>
          simp only [hs, cond_true, Option.some.injEq] at hc
          cases c <;> simp [D.erase] at hc
          rename_i ms gs hint
          obtain ⟨rfl, rfl⟩ := hc
          simp only [wD] at hk
          rw [forceN_eq, compSs_len hl] at hk
          obtain ⟨rc, T', h1, hall, hw', hT', h5⟩ := gdraw_run (N := nx) (H0 := H) (n0 := nx + ops.toList.length) (T0 := T) hn _ gs hint ops.toList [] T hl (by simp) hok trivial hw (fun t _ => rfl) hk
          rcases chkP_ok P d n ops.toList nx H rc (mergeK (masks ops.toList) nx (esR rc) (hR H rc) (fun H => k T' H (nR (nx + ops.toList.length) rc)) (asR rc)) False with h | ⟨h, hrs⟩
          · rw [h] at h5; exact h5.elim
          · rw [h, merge_eq] at h5
            refine ⟨.n, T', _, _, h5, hw', ?_, fun F a w Q ht hr hk => ?_⟩
            · have hv : Agr n (dsts (eraseG gs)) T T' := fun j hj hne => by rw [hT' j hj]; exact valR_other (compSs_dsts hl) hne
              rw [eraseG_dsts] at hv; exact hv
            · have := draw_core hm hs hn (by simpa using h1) hall hw' hT' hrs id F a w Q ht hr hk
              simpa using this
  | seq a b iha ihb =>
    intro c hc hok T H nx k x r hw hk
    simp only [compC] at hc
    cases ha : compC P n a with
    | none => simp [ha] at hc
    | some ca => cases hb : compC P n b with
      | none => simp [ha, hb] at hc
      | some cb =>
        simp only [ha, hb, Option.some.injEq] at hc
        cases c <;> simp only [D.erase, C.seq.injEq, reduceCtorEq] at hc
        · rename_i da db
          obtain ⟨rfl, rfl⟩ := hc
          simp only [D.ok, Bool.and_eq_true] at hok
          obtain ⟨o, T1, H1, nx1, h, hw1, hg1, hok1⟩ := iha da ha hok.1 T H nx (fun T H nx => wD P d db T H nx k x r) x r hw hk
          cases o with
          | n =>
            obtain ⟨o2, T2, H2, nx2, h2, hw2, hg2, hok2⟩ := ihb db hb hok.2 T1 H1 nx1 k x r hw1 h
            refine ⟨o2, T2, H2, nx2, h2, hw2, hg1.trans hg2, fun F ac w Q ht hr hk => wp_seq (hok1 F ac w _ ht hr fun F' a' w' ht' hst hdf => ?_)⟩
            exact hok2 F' a' w' Q ht' hst.hr fun F2 a2 w2 ht2 hst2 hdf2 => hk F2 a2 w2 ht2 (hst.trans hst2) (hdf2.trans hdf)
          | x id => exact ⟨.x id, T1, H1, nx1, h, hw1, hg1.mono (fun j hj => List.mem_append_left _ hj), fun F ac w Q ht hr hk => wp_seq (hok1 F ac w _ ht hr fun F' a' w' ht' hst hdf => hk F' a' w' ht' hst hdf)⟩
          | r => exact ⟨.r, T1, H1, nx1, h, hw1, hg1.mono (fun j hj => List.mem_append_left _ hj), fun F ac w Q ht hr hk => wp_seq (hok1 F ac w _ ht hr fun F' a' w' ht' hst hdf => hk F' a' w' ht' hst hdf)⟩
        · rename_i ws ds da db
          obtain ⟨rfl, rfl⟩ := hc
          simp only [D.ok, Bool.and_eq_true] at hok
          obtain ⟨⟨⟨⟨q1, q2⟩, q3⟩, q4⟩, q5⟩ := hok
          have hl := allLt_mem q2
          obtain ⟨o, T1, H1, nx1, h, hw1, hg1, hok1⟩ := iha da ha q4 T H nx (fun T1 H nx => getsK T1 ws fun L => poisK d ds T fun T => setsK d L ws 0 T fun T => wD P d db T H nx k x r) x r hw hk
          cases o with
          | n =>
            simp only [Ox.go] at h
            rw [getsK_eq, poisK_eq, setsK_eq] at h
            obtain ⟨o2, T2, H2, nx2, h2, hw2, hg2, hok2⟩ := ihb db hb q5 _ H1 nx1 k x r (setT_wf (poisT_wf hw)) h
            refine ⟨o2, T2, H2, nx2, h2, hw2, ?_, fun F ac w Q ht hr hk => wp_seq (hok1 F ac w _ ht hr fun F' a' w' ht' hst hdf => ?_)⟩
            · exact ((agr_join hn hw hl q3).trans hg2).mono fun j hj => List.mem_append_right _ hj
            · exact hok2 F' a' w' Q (TR.join hn hw ht' hg1 (subL_mem q1) hl q3) hst.hr fun F2 a2 w2 ht2 hst2 hdf2 => hk F2 a2 w2 ht2 (hst.trans hst2) (hdf2.trans hdf)
          | x id => exact ⟨.x id, T1, H1, nx1, h, hw1, hg1.mono (fun j hj => List.mem_append_left _ hj), fun F ac w Q ht hr hk => wp_seq (hok1 F ac w _ ht hr fun F' a' w' ht' hst hdf => hk F' a' w' ht' hst hdf)⟩
          | r => exact ⟨.r, T1, H1, nx1, h, hw1, hg1.mono (fun j hj => List.mem_append_left _ hj), fun F ac w Q ht hr hk => wp_seq (hok1 F ac w _ ht hr fun F' a' w' ht' hst hdf => hk F' a' w' ht' hst hdf)⟩
  | cond v a b iha ihb =>
    intro c hc hok T H nx k x r hw hk
    simp only [compC] at hc
    cases hv : compX n v with
    | none => simp [hv] at hc
    | some cv => cases ha : compC P n a with
      | none => simp [hv, ha] at hc
      | some ca => cases hb : compC P n b with
        | none => simp [hv, ha, hb] at hc
        | some cb =>
          simp only [hv, ha, hb, Option.some.injEq] at hc
          cases c <;> simp only [D.erase, C.cond.injEq, reduceCtorEq] at hc
          rename_i y da db
          obtain ⟨rfl, rfl, rfl⟩ := hc
          simp only [D.ok, Bool.and_eq_true] at hok
          simp only [wD] at hk
          rw [evK_eq] at hk
          unfold wIf at hk
          split at hk
          · rename_i t hvt
            rw [ifK_eq] at hk
            have hev : ∀ (F : FM) (ac : Act), TR d F T n ac.tmps → ac.eval v = .bool t := fun F ac ht => by
              have := ht.evX hv
              rw [hvt] at this
              exact this.bool_inv
            cases t with
            | true =>
              obtain ⟨o, T1, H1, nx1, h, hw1, hg1, hok1⟩ := iha da ha hok.1 T H nx k x r hw (by simpa using hk)
              exact ⟨o, T1, H1, nx1, h, hw1, hg1.mono (fun j hj => List.mem_append_left _ hj), fun F ac w Q ht hr hk => wp_cond_true (hev F ac ht) (hok1 F ac w Q ht hr hk)⟩
            | false =>
              obtain ⟨o, T1, H1, nx1, h, hw1, hg1, hok1⟩ := ihb db hb hok.2 T H nx k x r hw (by simpa using hk)
              exact ⟨o, T1, H1, nx1, h, hw1, hg1.mono (fun j hj => List.mem_append_right _ hj), fun F ac w Q ht hr hk => wp_cond_false (hev F ac ht) (hok1 F ac w Q ht hr hk)⟩
          · exact hk.elim
  | block id a iha =>
    intro c hc hok T H nx k x r hw hk
    simp only [compC] at hc
    cases ha : compC P n a with
    | none => simp [ha] at hc
    | some ca =>
      simp only [ha, Option.map_some, Option.some.injEq] at hc
      cases c <;> simp only [D.erase, C.block.injEq, reduceCtorEq] at hc
      rename_i id2 da
      obtain ⟨rfl, rfl⟩ := hc
      obtain ⟨o, T1, H1, nx1, h, hw1, hg1, hok1⟩ := iha da ha hok T H nx k (fun id' T H nx => cond (Nat.beq id' id) (k T H nx) (x id' T H nx)) r hw hk
      cases o with
      | n => exact ⟨.n, T1, H1, nx1, h, hw1, hg1, fun F ac w Q ht hr hk => wp_block (hok1 F ac w _ ht hr fun F' a' w' ht' hst hdf => hk F' a' w' ht' hst hdf)⟩
      | r => exact ⟨.r, T1, H1, nx1, h, hw1, hg1, fun F ac w Q ht hr hk => wp_block (hok1 F ac w _ ht hr fun F' a' w' ht' hst hdf => hk F' a' w' ht' hst hdf)⟩
      | x id' =>
        simp only [Ox.go] at h
        cases hid : Nat.beq id' id with
        | true =>
          have e := Nat.eq_of_beq_eq_true hid
          subst e
          rw [hid] at h
          refine ⟨.n, T1, H1, nx1, h, hw1, hg1, fun F ac w Q ht hr hk => wp_block (hok1 F ac w _ ht hr fun F' a' w' ht' hst hdf => ?_)⟩
          simp only [Ox.exit, Exit.inBlock, if_true]
          exact hk F' a' w' ht' hst hdf
        | false =>
          have e : id' ≠ id := fun e => by subst e; simp at hid
          rw [hid] at h
          refine ⟨.x id', T1, H1, nx1, h, hw1, hg1, fun F ac w Q ht hr hk => wp_block (hok1 F ac w _ ht hr fun F' a' w' ht' hst hdf => ?_)⟩
          simp only [Ox.exit, Exit.inBlock, e, if_false]
          exact hk F' a' w' ht' hst hdf
  | scope a iha =>
    intro c hc hok T H nx k x r hw hk
    simp only [compC] at hc
    obtain ⟨o, T1, H1, nx1, h, hw1, hg1, hok1⟩ := iha c hc hok T H nx k x r hw hk
    refine ⟨o, T1, H1, nx1, h, hw1, hg1, fun F ac w Q ht hr hk => wp_scope_straight (hok1 F ac w _ ht hr fun F' a' w' ht' hst hdf => ?_)⟩
    cases o <;> exact hk F' a' w' ht' hst hdf
  | loop a iha =>
    intro c hc hok T H nx k x r hw hk
    simp only [compC] at hc
    cases ha : compC P n a with
    | none => simp [ha] at hc
    | some ca =>
      simp only [ha, Option.map_some, Option.some.injEq] at hc
      cases c <;> simp only [D.erase, C.loop.injEq, reduceCtorEq] at hc
      rename_i ws ds da
      subst hc
      simp only [D.ok, Bool.and_eq_true] at hok
      obtain ⟨⟨⟨q1, q2⟩, q3⟩, q4⟩ := hok
      have hl := allLt_mem q2
      simp only [wD] at hk
      rw [getsK_eq] at hk
      obtain ⟨m, hk⟩ := hk
      generalize hF : (fun (ih : JK) (L : List Value) (H : Heap) (nx : Nat) => poisK d ds T fun T => setsK d L ws 0 T fun T => wD P d da T H nx (fun T H nx => getsK T ws fun L => ih L H nx) x r) = Fn at hk
      -- the rounds
      have rounds : ∀ (m : Nat) (L : List Value) (H : Heap) (nx : Nat), wIter Fn m L H nx →
          ∃ (o : Ox) (T' : Tree Value) (H' : Heap) (nx' : Nat), o ≠ .n ∧ Ox.go k x r o T' H' nx' ∧ WF d T' ∧ Agr n ((ws ++ ds) ++ da.writes) T T' ∧
            ∀ (F : FM) (ac : Act) (w : World) (Q : Exit → Act → World → Prop), TR d F (setT d L ws 0 (poisT d ds T)) n ac.tmps → HR F H nx w →
              (∀ F' a' w', TR d F' T' n a'.tmps → Stp F H nx w F' H' nx' w' → a'.defers = ac.defers → Q o.exit a' w') → Code.rounds P a Q m ac w := by
        intro m
        induction m with
        | zero => intro L H nx h; exact h.elim
        | succ m ihm =>
          intro L H nx h
          have h' : Fn (wIter Fn m) L H nx := h
          rw [← hF] at h'
          rw [poisK_eq, setsK_eq] at h'
          obtain ⟨o, T1, H1, nx1, h1, hw1, hg1, hok1⟩ := iha da ha q4 _ H nx _ x r (setT_wf (poisT_wf hw)) h'
          cases o with
          | n =>
            simp only [Ox.go] at h1
            rw [getsK_eq, hF] at h1
            obtain ⟨o2, T2, H2, nx2, hne, h2, hw2, hg2, hok2⟩ := ihm _ H1 nx1 h1
            refine ⟨o2, T2, H2, nx2, hne, h2, hw2, hg2, fun F ac w Q ht hr hk => ?_⟩
            rw [rounds_succ]
            refine hok1 F ac w _ ht hr fun F' a' w' ht' hst hdf => ?_
            have ha2 : Agr n (ws ++ ds) T T1 := ((agr_join (L := L) hn hw hl q3).trans hg1).mono fun j hj => (List.mem_append.1 hj).elim id (subL_mem q1 j)
            exact hok2 F' a' w' Q (TR.join hn hw ht' ha2 (fun j hj => hj) hl q3) hst.hr fun F2 a2 w2 ht2 hst2 hdf2 => hk F2 a2 w2 ht2 (hst.trans hst2) (hdf2.trans hdf)
          | x id =>
            refine ⟨.x id, T1, H1, nx1, by simp, h1, hw1, (agr_join hn hw hl q3).trans hg1, fun F ac w Q ht hr hk => ?_⟩
            rw [rounds_succ]
            exact hok1 F ac w _ ht hr fun F' a' w' ht' hst hdf => hk F' a' w' ht' hst hdf
          | r =>
            refine ⟨.r, T1, H1, nx1, by simp, h1, hw1, (agr_join hn hw hl q3).trans hg1, fun F ac w Q ht hr hk => ?_⟩
            rw [rounds_succ]
            exact hok1 F ac w _ ht hr fun F' a' w' ht' hst hdf => hk F' a' w' ht' hst hdf
      obtain ⟨o, T1, H1, nx1, _, h, hw1, hg1, hok1⟩ := rounds m _ H nx hk
      refine ⟨o, T1, H1, nx1, h, hw1, hg1, fun F ac w Q ht hr hk => wp_loop_rounds m (hok1 F ac w Q ?_ hr hk)⟩
      exact TR.join hn hw ht (Agr.refl n (ws ++ ds) T) (fun j hj => hj) hl q3

/-- The claim of a function's body. -/
noncomputable def wBody (P : Program) (n d : Nat) (body : D) (res : List (X × Option (Option Nat))) (args : List Value) (H : Heap) (nx : Nat) (Q : Value → Heap → Nat → Prop) : Prop :=
  initT d args 0 .leaf fun T => wD P d body T H nx (retK P res False Q) (fun _ _ _ _ => False) (retK P res False Q)

/-- ████ WHAT THE CLAIM SAYS. ████ -/
theorem spec_of_body (hm : P.follows .mixedOrders = true) (hNG : NamesOK P) {f : FuncId} {body : D} {res : List (X × Option (Option Nat))} (hcf : cfn P f = some ⟨n, d, body.erase, res⟩) (hok : body.ok n d = true) {args : List Value} (hl : args.length ≤ n)
    {H : Heap} {nx : Nat} {Q : Value → Heap → Nat → Prop} (h : wBody P n d body res args H nx Q) : Ans P f args H nx Q := by
  unfold cfn at hcf
  rw [nth_eq] at hcf
  cases hf : P.funcs.toList[f]? with
  | none => simp [hf] at hcf
  | some fn =>
    simp only [hf] at hcf
    have hf' : P.funcs[f]? = some fn := by simpa using hf
    cases hb : fn.body with
    | none => simp [hb] at hcf
    | some c =>
      simp only [hb] at hcf
      cases hc : compC P fn.ntmps c with
      | none => simp [hc] at hcf
      | some cb =>
        cases hres : compR P fn.ntmps fn.results.toList with
        | none => simp [hc, hres] at hcf
        | some rs =>
          simp only [hc, hres, Option.some.injEq, CF.mk.injEq] at hcf
          obtain ⟨rfl, hd, rfl, rfl⟩ := hcf
          have hd' : fn.ntmps ≤ 2 ^ d := by rw [← hd]; exact Nat.le_of_lt Nat.lt_log2_self
          unfold wBody at h
          rw [initT_eq] at h
          have wl : WF d (.leaf : Tree Value) := by cases d <;> trivial
          have hw := fillT_wf d args 0 .leaf wl
          obtain ⟨o, T', H', nx', h1, hw', _, hok1⟩ := wD_sound hm hd' c body hc hok _ H nx _ _ _ hw h
          have fin : (o = .n ∨ o = .r) → retK P rs False Q T' H' nx' → Ans P f args H nx Q := by
            intro hx hret
            unfold retK at hret
            rcases resK_sound (d := d) (T := T') (H := H') (nx := nx') False _ rs hres (fun vs => forceV (tup vs) fun v => Q v H' nx') with h2 | ⟨vs, h2, hok2⟩
            · rw [h2] at hret; exact hret.elim
            · rw [h2, forceV_eq] at hret
              refine ⟨tup vs, H', nx', ⟨⟨fn, c, hf', hb, hNG f fn hf'⟩, fun F args' w hr hv => ?_⟩, hret⟩
              refine calls_of_wp hf' hb (hok1 F _ w _ (TR_start hv hd' hl) hr fun F' a' w' ht' hst hdf => ?_)
              obtain ⟨vs', h3, h4⟩ := hok2 F' a'.tmps w' ht' hst.hr.hb
              have hpost : a'.defers = [] ∧ ∃ v, (results fn a'.tmps).run P w' = .ok v w' ∧ (∃ v' F', Ending.returned v = .returned v' ∧ VR F' (tup vs) v' ∧ Stp F H nx w F' H' nx' w') :=
                ⟨hdf, tup vs', results_run h3, tup vs', F', rfl, tup_vr h4, hst⟩
              rcases hx with rfl | rfl <;> exact hpost
          cases o with
          | n => exact fin (.inl rfl) h1
          | x id => exact h1.elim
          | r => exact fin (.inr rfl) h1
end
end Go.Clo

set_option linter.unusedSimpArgs false
set_option linter.unusedVariables false
set_option linter.unusedSectionVars false
namespace Go.Clo

abbrev VP := Value → Prop
abbrev EP := Value → Heap → Nat → Prop

noncomputable def wPick (c a b : Value) (k : VP) : Prop := match c with
  | .bool t => ifK t (k a) (k b)
  | _ => False
noncomputable def wBin (op : BinOp) (x y : Value) (k : VP) : Prop := binVK op x y False k
noncomputable def wUn (op : UnOp) (x : Value) (k : VP) : Prop := optK (unV op x) False k
noncomputable def wVf (f : VF) (xs : List Value) (k : VP) : Prop := optK (f.ev xs) False k
noncomputable def wFld (v : Value) (off : Nat) (k : VP) : Prop := match v with
  | .pointer (some a) => offK (a.off + off) a k
  | _ => False
noncomputable def wIdx (v vi : Value) (len : Option Nat) (size : Nat) (k : VP) : Prop := match vi with
  | .int _ (.ofNat i) => pIdx2 len size i False k v
  | _ => False
noncomputable def wNilc (v : Value) (k : VP) : Prop := match v with
  | .pointer (some a) => k (.pointer (some a))
  | _ => False
noncomputable def wExt (v : Value) (i : Nat) (k : VP) : Prop := match v with
  | .tuple vs => nthK vs.toList i False k
  | _ => False
noncomputable def wPart (v : Value) (off : Nat) (size : Option Nat) (k : VP) : Prop := match v with
  | .agg cs => cutK cs.toList off size False k
  | _ => False
noncomputable def wAidx (v vi : Value) (len size : Nat) (agg : Bool) (k : VP) : Prop := match vi with
  | .int _ (.ofNat i) => (match v with
    | .agg cs => cond (Nat.blt i len) (cutK cs.toList (i * size) (cond agg (some size) none) False k) False
    | _ => False)
  | _ => False
noncomputable def wBuild (z : List Value) (pl : List (Nat × Nat)) (vs : List (Nat × Value)) (k : VP) : Prop := match fillA (nth pl) z vs with
  | some cs => spine cs fun cs => k (.agg ⟨cs⟩)
  | none => False
noncomputable def wSlA (v : Value) (n size : Nat) (lo hi mx : Option Value) (k : VP) : Prop := match v with
  | .pointer (some a) => (match sliceA (some a) n n size lo hi mx false with
    | some r => force1 r k
    | none => False)
  | _ => False
noncomputable def wLd (v : Value) (size : Option Nat) (H : Heap) (k : VP) : Prop := match v with
  | .pointer (some ⟨b, o, none⟩) => getB H b False (ldB o size False k)
  | _ => False
noncomputable def wLk (kd : TypeDesc) (zero v vi : Value) (ok : Bool) (H : Heap) (k : VP) : Prop := cond (keyKind kd vi)
    ((fun (es : List MapEntry → Prop) => match v with
      | .map none => es []
      | .map (some r) => getB H r False fun b => match b with
        | .map l _ => es l
        | _ => False
      | _ => False) fun l => match Instr.findNow kd vi l 0 with
        | some (some (_, v)) => cond ok (k (.tuple ⟨[v, .bool true]⟩)) (k v)
        | some none => cond ok (k (.tuple ⟨[zero, .bool false]⟩)) (k zero)
        | none => False) False
noncomputable def wLen (v : Value) (kd : Nat) (H : Heap) (k : VP) : Prop := match kd, v with
    | 0, .slice _ n _ => k (.int .i64 (.ofNat n))
    | 1, .string s => forceN s.size fun n => k (.int .i64 (.ofNat n))
    | 2, .map none => k (.int .i64 (.ofNat 0))
    | 2, .map (some r) => getB H r False fun b => match b with
      | .map l _ => forceN l.length fun n => k (.int .i64 (.ofNat n))
      | _ => False
    | _, _ => False
noncomputable def wConv (kd : IntKind) (v : Value) (k : VP) : Prop := match v with
    | .int _ n => cond (fits kd n) (k (.int kd n)) (forceI (kd.wrap n) fun n => k (.int kd n))
    | _ => False
noncomputable def wSl (v : Value) (size : Nat) (lo hi mx : Option Value) (H : Heap) (k : VP) : Prop := match v with
    | .slice none len cap => (match sliceA none len cap size lo hi mx false with
      | some r => force1 r k
      | none => False)
    | .slice (some a) len cap => getB H a.block False (slB a len cap size lo hi mx False k)
    | _ => False
noncomputable def wNew (b : Blk) (y : Yld) (H : Heap) (nx : Nat) (k : EP) : Prop :=
  hsK H nx (some b) fun H => forceN (nx + 1) fun n => force1 (y.val nx) fun v => k v H n
noncomputable def dBox (v : Value) (k : List Value → Prop) : Prop := cond (oneCells v.cells.toList) (spine v.cells.toList k) False
noncomputable def dBsl (len size : Nat) (z : List Value) (vs : List (Nat × Value)) (k : List Value → Prop) : Prop :=
  match fillA (fun k => some (k * size, size)) (repeatA z len) vs with
    | some cs => cond (oneCells cs) (spine cs k) False
    | none => False
noncomputable def dMsl (vl vc : Value) (z : List Value) (k : List Value → Nat → Nat → Prop) : Prop := match vl, vc with
    | .int .i64 (.ofNat l), .int .i64 (.ofNat c) => cond (Nat.ble l c && Nat.ble c 1000000) (spine (repeatA z c) fun cs => k cs l c) False
    | _, _ => False
noncomputable def dMmap (x : Option Value) (k : Prop) : Prop := match x with
    | none => k
    | some (.int _ _) => k
    | _ => False
noncomputable def wNm (nx i : Nat) (y : Yld) (k : VP) : Prop := forceN (nx + i) fun q => forceV (y.val q) k
noncomputable def wSt (p v : Value) (size : Nat) (H : Heap) (k : Heap → Prop) : Prop := match p with
    | .pointer (some a) => cond (Nat.beq v.cells.toList.length size && oneCells v.cells.toList) (putCK H a v.cells.toList False k) False
    | _ => False
noncomputable def wUpd (kd : TypeDesc) (m key v : Value) (H : Heap) (nx : Nat) (k : EP) : Prop := match m with
    | .map (some r) => getB H r False (updK kd H nx r key v False k)
    | _ => False
noncomputable def wCall (P : Program) (f : FuncId) (args : List Value) (H : Heap) (nx : Nat) (k : EP) : Prop := callP P f args H nx False k
noncomputable def wCallV (P : Program) (f : Value) (args : List Value) (H : Heap) (nx : Nat) (k : EP) : Prop := match f with
    | .func (.func g) ⟨first⟩ ⟨cap⟩ => spine (first ++ args ++ cap) fun vs => callP P g vs H nx False k
    | _ => False
noncomputable def wApp (s x : Value) (size bytes : Nat) (H : Heap) (nx : Nat) (k : EP) : Prop := appK H nx size bytes s x False k
noncomputable def wCopy (d s : Value) (size : Nat) (H : Heap) (nx : Nat) (k : EP) : Prop := match d, lenA s with
    | .slice base dLen _, some m => forceN (Nat.min m dLen) fun n => firstK H size n s False fun cs => cond (oneCells cs) (match base with
      | none => k (.int .i64 (.ofNat n)) H nx
      | some a => putCK H a cs False fun H => k (.int .i64 (.ofNat n)) H nx) False
    | _, _ => False
noncomputable def wGuard (want : Bool) (v : Value) (yes no : Prop) : Prop := match v with
    | .bool b => ifK (cond b want (!want)) yes no
    | _ => False
end Go.Clo

set_option linter.unusedSimpArgs false
set_option linter.unusedVariables false
set_option linter.unusedSectionVars false
namespace Go.Clo

/-! Joins, loops, calls. -/
theorem wJoin_rule {body : JK → Prop} {rest : JK} (R : JK) (h1 : ∀ j : JK, (∀ L H nx, R L H nx → j L H nx) → body j) (h2 : ∀ L H nx, R L H nx → rest L H nx) : wJoin body rest := h1 rest h2
theorem wJoin_eq (body : JK → Prop) (rest : JK) : wJoin body rest = body rest := rfl
/-- A loop: 'I m' holds where at most m rounds more are needed. -/
theorem wLoop_rule {F : JK → JK} (I : Nat → List Value → Heap → Nat → Prop) (step : ∀ m ih L H nx, I m L H nx → (∀ m' L' H' nx', m' < m → I m' L' H' nx' → ih L' H' nx') → F ih L H nx)
    {m : Nat} {L : List Value} {H : Heap} {nx : Nat} (h : I m L H nx) : wLoop F L H nx := by
  have key : ∀ (k m : Nat) (L : List Value) (H : Heap) (nx : Nat), m < k → I m L H nx → wIter F k L H nx := by
    intro k
    induction k with
    | zero => intro m L H nx h; omega
    | succ k ih =>
      intro m L H nx hm hI
      exact step m (wIter F k) L H nx hI fun m' L' H' nx' hm' hI' => ih m' L' H' nx' (by omega) hI'
  exact ⟨m + 1, key (m + 1) m L H nx (by omega) h⟩
theorem wCall_rule {P : Program} {f : FuncId} {args : List Value} {H : Heap} {nx : Nat} {k : EP} {Q : EP} (h : Ans P f args H nx Q) (hk : ∀ v H' nx', Q v H' nx' → k v H' nx') : wCall P f args H nx k := .inr (h.mono hk)

/-- The heap has grown: what was there is as it was. -/
structure Ext (H : Heap) (nx : Nat) (H' : Heap) (nx' : Nat) : Prop where
  le : nx ≤ nx'
  get : ∀ i, i < nx → getH H' i = getH H i
theorem Ext.refl (H : Heap) (nx : Nat) : Ext H nx H nx := ⟨Nat.le_refl _, fun _ _ => rfl⟩
theorem Ext.trans {H : Heap} {nx : Nat} {H1 : Heap} {n1 : Nat} {H2 : Heap} {n2 : Nat} (a : Ext H nx H1 n1) (b : Ext H1 n1 H2 n2) : Ext H nx H2 n2 :=
  ⟨Nat.le_trans a.le b.le, fun i hi => (b.get i (Nat.lt_of_lt_of_le hi a.le)).trans (a.get i hi)⟩
theorem Ext.new {H : Heap} {nx : Nat} {H1 : Heap} {n1 i m : Nat} (a : Ext H nx H1 n1) (b : Option Blk) (hi : nx ≤ i) (hm : n1 ≤ m) : Ext H nx (hs H1 i b) m :=
  ⟨Nat.le_trans a.le hm, fun j hj => by rw [getH_hs, if_neg (by omega)]; exact a.get j hj⟩
theorem Ext.hs {H : Heap} {nx : Nat} {H1 : Heap} {i m : Nat} {b : Option Blk} (a : Ext H nx H1 m) (hi : nx ≤ i) : Ext H nx (Go.Clo.hs H1 i b) m := a.new b hi (Nat.le_refl _)
theorem Ext.self {H : Heap} {nx m : Nat} (h : nx ≤ m) : Ext H nx H m := ⟨h, fun _ _ => rfl⟩
theorem Ext.more {H : Heap} {nx : Nat} {H1 : Heap} {n1 m : Nat} (a : Ext H nx H1 n1) (hm : n1 ≤ m) : Ext H nx H1 m := ⟨Nat.le_trans a.le hm, a.get⟩
theorem Ext.less {H : Heap} {nx n0 : Nat} {H1 : Heap} {n1 : Nat} (a : Ext H nx H1 n1) (hm : n0 ≤ nx) : Ext H n0 H1 n1 := ⟨Nat.le_trans hm a.le, fun i hi => a.get i (by omega)⟩

/-! Values. -/
theorem eqK_refl (k : IntKind) : eqK k k = true := by cases k <;> rfl
theorem wBin_eq (op : BinOp) (x y : Value) (k : VP) : wBin op x y k = (binV op x y).elim False k := binVK_eq op x y False k
section
variable (K : IntKind) (a b : Int) (k : VP)
theorem wBin_lss : wBin .lss (.int K a) (.int K b) k = k (.bool (decide (a < b))) := by rw [wBin_eq]; simp [binV, isShift, eqK_refl, intV]
theorem wBin_leq : wBin .leq (.int K a) (.int K b) k = k (.bool (decide (a ≤ b))) := by rw [wBin_eq]; simp [binV, isShift, eqK_refl, intV]
theorem wBin_gtr : wBin .gtr (.int K a) (.int K b) k = k (.bool (decide (b < a))) := by rw [wBin_eq]; simp [binV, isShift, eqK_refl, intV]
theorem wBin_geq : wBin .geq (.int K a) (.int K b) k = k (.bool (decide (b ≤ a))) := by rw [wBin_eq]; simp [binV, isShift, eqK_refl, intV]
theorem wBin_eql : wBin .eql (.int K a) (.int K b) k = k (.bool (decide (a = b))) := by rw [wBin_eq]; simp [binV, isShift, eqK_refl, intV]; rfl
theorem wBin_neq : wBin .neq (.int K a) (.int K b) k = k (.bool (decide (a ≠ b))) := by
  rw [wBin_eq]; simp only [binV, isShift, eqK_refl, intV, cond_true, cond_false, Option.elim_some]
  congr 2; rw [Bool.eq_iff_iff]; simp
theorem wBin_add : wBin .add (.int K a) (.int K b) k = k (.int K (K.wrap (a + b))) := by rw [wBin_eq]; simp [binV, isShift, eqK_refl, intV]
theorem wBin_sub : wBin .sub (.int K a) (.int K b) k = k (.int K (K.wrap (a - b))) := by rw [wBin_eq]; simp [binV, isShift, eqK_refl, intV]
theorem wBin_mul : wBin .mul (.int K a) (.int K b) k = k (.int K (K.wrap (a * b))) := by rw [wBin_eq]; simp [binV, isShift, eqK_refl, intV]
theorem wBin_quo (h : b ≠ 0) : wBin .quo (.int K a) (.int K b) k = k (.int K (K.wrap (a.tdiv b))) := by rw [wBin_eq]; simp [binV, isShift, eqK_refl, intV, h]
theorem wBin_rem (h : b ≠ 0) : wBin .rem (.int K a) (.int K b) k = k (.int K (a.tmod b)) := by rw [wBin_eq]; simp [binV, isShift, eqK_refl, intV, h]
theorem i64_id {x : Int} (h1 : -9223372036854775808 ≤ x) (h2 : x < 9223372036854775808) : IntKind.i64.wrap x = x := IntWalk.i64_in _ ⟨h1, by omega⟩
theorem wBin_add64 (h1 : -9223372036854775808 ≤ a + b) (h2 : a + b < 9223372036854775808) : wBin .add (.int .i64 a) (.int .i64 b) k = k (.int .i64 (a + b)) := by rw [wBin_add, i64_id h1 h2]
theorem wBin_sub64 (h1 : -9223372036854775808 ≤ a - b) (h2 : a - b < 9223372036854775808) : wBin .sub (.int .i64 a) (.int .i64 b) k = k (.int .i64 (a - b)) := by rw [wBin_sub, i64_id h1 h2]
end
theorem wIf_bool (b : Bool) (t e : Prop) : wIf (.bool b) t e = if b = true then t else e := by unfold wIf; exact ifK_eq b t e
theorem wGuard_true (b : Bool) (y n : Prop) : wGuard true (.bool b) y n = if b = true then y else n := by cases b <;> rfl
theorem wGuard_false (b : Bool) (y n : Prop) : wGuard false (.bool b) y n = if b = true then n else y := by cases b <;> rfl
theorem wPick_true (a b : Value) (k : VP) : wPick (.bool true) a b k = k a := rfl
theorem wPick_false (a b : Value) (k : VP) : wPick (.bool false) a b k = k b := rfl
theorem wUn_not (b : Bool) (k : VP) : wUn .not (.bool b) k = k (.bool !b) := by unfold wUn; rw [optK_eq]; rfl
theorem wFld_eq (b o : Nat) (s : Option Nat) (off : Nat) (k : VP) : wFld (.pointer (some ⟨b, o, s⟩)) off k = k (.pointer (some ⟨b, o + off, s⟩)) := by
  show forceN (o + off) (fun n => k (.pointer (some ⟨b, n, s⟩))) = _
  rw [forceN_eq]
theorem wIdx_slice {i : Int} {n : Nat} (h1 : 0 ≤ i) (h2 : i < n) (b o : Nat) (s : Option Nat) (c size : Nat) (kd : IntKind) (k : VP) : wIdx (.slice (some ⟨b, o, s⟩) n c) (.int kd i) none size k = k (.pointer (some ⟨b, o + i.toNat * size, s⟩)) := by
  obtain ⟨j, rfl⟩ := Int.eq_ofNat_of_zero_le h1
  have : Nat.blt j n = true := by simp; omega
  show cond (Nat.blt j n) (offK (o + j * size) ⟨b, o, s⟩ k) False = _
  rw [this]; unfold offK; simp only [cond_true]; rw [forceN_eq]; rfl
theorem wIdx_array {i : Int} {n : Nat} (h1 : 0 ≤ i) (h2 : i < n) (b o : Nat) (s : Option Nat) (size : Nat) (kd : IntKind) (k : VP) : wIdx (.pointer (some ⟨b, o, s⟩)) (.int kd i) (some n) size k = k (.pointer (some ⟨b, o + i.toNat * size, s⟩)) := by
  obtain ⟨j, rfl⟩ := Int.eq_ofNat_of_zero_le h1
  have : Nat.blt j n = true := by simp; omega
  show cond (Nat.blt j n) (offK (o + j * size) ⟨b, o, s⟩ k) False = _
  rw [this]; unfold offK; simp only [cond_true]; rw [forceN_eq]; rfl
theorem wNilc_eq (a : Addr) (k : VP) : wNilc (.pointer (some a)) k = k (.pointer (some a)) := rfl
theorem wExt_eq (l : List Value) (i : Nat) (k : VP) : wExt (.tuple ⟨l⟩) i k = (l[i]?).elim False k := by unfold wExt; exact nthK_eq l i False k
theorem wPart_one (l : List Value) (o : Nat) (k : VP) : wPart (.agg ⟨l⟩) o none k = (l[o]?).elim False k := by unfold wPart cutK; exact nthK_eq l o False k
theorem wPart_agg (l : List Value) (o n : Nat) (k : VP) : wPart (.agg ⟨l⟩) o (some n) k = k (.agg ⟨(l.drop o).take n⟩) := by unfold wPart cutK; exact spine_eq _ _
theorem wLen_slice (a : Option Addr) (n c : Nat) (H : Heap) (k : VP) : wLen (.slice a n c) 0 H k = k (.int .i64 n) := rfl
theorem wLen_string (s : ByteArray) (H : Heap) (k : VP) : wLen (.string s) 1 H k = k (.int .i64 s.size) := by unfold wLen; exact forceN_eq _ _
theorem wConv_eq (kd k' : IntKind) (n : Int) (k : VP) : wConv kd (.int k' n) k = k (.int kd (kd.wrap n)) := by
  show cond (fits kd n) (k (.int kd n)) (forceI (kd.wrap n) fun n => k (.int kd n)) = _
  rw [forceI_eq]
  cases hf : fits kd n with
  | true => rw [fits_wrap hf]; rfl
  | false => rfl
theorem wNew_eq (b : Blk) (y : Yld) (H : Heap) (nx : Nat) (k : EP) : wNew b y H nx k = k (y.val nx) (hs H nx (some b)) (nx + 1) := by unfold wNew; rw [hsK_eq, forceN_eq, force1_eq]
theorem wNm_eq (nx i : Nat) (y : Yld) (k : VP) : wNm nx i y k = k (y.val (nx + i)) := by unfold wNm; rw [forceN_eq, forceV_eq]
theorem dBox_eq {v : Value} (h : oneCells v.cells.toList = true) (k : List Value → Prop) : dBox v k = k v.cells.toList := by unfold dBox; rw [h]; exact spine_eq _ _

theorem dBox_agg (l : List Value) (k : List Value → Prop) : dBox (.agg ⟨l⟩) k = if oneCells l = true then k l else False := by
  show cond (oneCells l) (spine l k) False = _
  rw [spine_eq]; cases oneCells l <;> rfl
theorem dBox_int (K : IntKind) (n : Int) (k : List Value → Prop) : dBox (.int K n) k = k [.int K n] := dBox_eq (v := .int K n) rfl k
theorem dBox_slice (A : Option Addr) (n c : Nat) (k : List Value → Prop) : dBox (.slice A n c) k = k [.slice A n c] := dBox_eq (v := .slice A n c) rfl k
theorem dBox_string (s : ByteArray) (k : List Value → Prop) : dBox (.string s) k = k [.string s] := dBox_eq (v := .string s) rfl k
theorem dBox_bool (s : Bool) (k : List Value → Prop) : dBox (.bool s) k = k [.bool s] := dBox_eq (v := .bool s) rfl k
theorem dBox_map (s : Option Nat) (k : List Value → Prop) : dBox (.map s) k = k [.map s] := dBox_eq (v := .map s) rfl k
theorem dBox_ptr (s : Option Addr) (k : List Value → Prop) : dBox (.pointer s) k = k [.pointer s] := dBox_eq (v := .pointer s) rfl k
theorem dBsl_eq (len size : Nat) (z : List Value) (vs : List (Nat × Value)) (k : List Value → Prop) : dBsl len size z vs k = (match fillA (fun k => some (k * size, size)) (repeatA z len) vs with | some cs => if oneCells cs = true then k cs else False | none => False) := by
  unfold dBsl
  cases fillA (fun k => some (k * size, size)) (repeatA z len) vs with
  | none => rfl
  | some cs => dsimp only; rw [spine_eq]; cases oneCells cs <;> rfl

/-! Memory. -/
def cellP (c : List Value) (o : Nat) (size : Option Nat) (k : VP) : Prop := match size with
  | none => (c[o]?).elim False k
  | some n => o + n ≤ c.length ∧ k (.agg ⟨(c.drop o).take n⟩)
def ldP (b : Option Blk) (o : Nat) (size : Option Nat) (k : VP) : Prop := match b with
  | some (.cells c _) => cellP c o size k
  | some (.rom c) => cellP c o size k
  | _ => False
theorem takeN_some {α : Type} : ∀ {n : Nat} {l : List α}, n ≤ l.length → takeN n l = some (l.take n)
  | 0, l, _ => by simp [takeN]
  | n + 1, [], h => by simp at h
  | n + 1, a :: l, h => by simp [takeN, takeN_some (n := n) (l := l) (by simpa using h)]
theorem takeN_none {α : Type} : ∀ {n : Nat} {l : List α}, l.length < n → takeN n l = none
  | 0, l, h => by omega
  | n + 1, [], _ => rfl
  | n + 1, a :: l, h => by simp [takeN, takeN_none (n := n) (l := l) (by simpa using h)]
theorem ldC_eq (o : Nat) (size : Option Nat) (k : VP) (c : List Value) (hle : ∀ n, size = some n → 0 < n) : ldC o size False k c = cellP c o size k := by
  unfold ldC cellP
  cases size with
  | none => exact nthK_eq c o False k
  | some n =>
    dsimp only
    have hn := hle n rfl
    by_cases h : o + n ≤ c.length
    · rw [takeN_some (by simp; omega)]; dsimp only; rw [spine_eq]; simp [h]
    · rw [takeN_none (by simp; omega)]; simp [h]
theorem wLd_eq (b o : Nat) (size : Option Nat) (H : Heap) (k : VP) (hle : ∀ n, size = some n → 0 < n) : wLd (.pointer (some ⟨b, o, none⟩)) size H k = ldP (getH H b) o size k := by
  show getB H b False (ldB o size False k) = _
  rw [getB_eq]
  unfold ldP
  cases getH H b with
  | none => rfl
  | some blk =>
    cases blk with
    | map es q => rfl
    | cells c sl => exact ldC_eq o size k c hle
    | rom c => exact ldC_eq o size k c hle
theorem wLd_none (b o : Nat) (H : Heap) (k : VP) : wLd (.pointer (some ⟨b, o, none⟩)) none H k = ldP (getH H b) o none k := wLd_eq b o none H k (fun n h => by cases h)
theorem wLd_some (b o n : Nat) (H : Heap) (k : VP) : wLd (.pointer (some ⟨b, o, none⟩)) (some (n + 1)) H k = ldP (getH H b) o (some (n + 1)) k := wLd_eq b o _ H k (fun m h => by cases h; omega)
theorem wLd_2 (b o : Nat) (H : Heap) (k : VP) : wLd (.pointer (some ⟨b, o, none⟩)) (some 2) H k = ldP (getH H b) o (some 2) k := wLd_some b o 1 H k
theorem wLd_3 (b o : Nat) (H : Heap) (k : VP) : wLd (.pointer (some ⟨b, o, none⟩)) (some 3) H k = ldP (getH H b) o (some 3) k := wLd_some b o 2 H k
theorem wLd_32 (b o : Nat) (H : Heap) (k : VP) : wLd (.pointer (some ⟨b, o, none⟩)) (some 32) H k = ldP (getH H b) o (some 32) k := wLd_some b o 31 H k
theorem ldP_cells (c : List Value) (sl o : Nat) (size : Option Nat) (k : VP) : ldP (some (.cells c sl)) o size k = cellP c o size k := rfl
theorem ldP_rom (c : List Value) (o : Nat) (size : Option Nat) (k : VP) : ldP (some (.rom c)) o size k = cellP c o size k := rfl
theorem cellP_one (c : List Value) (o : Nat) (k : VP) : cellP c o none k = (c[o]?).elim False k := rfl
theorem cellP_agg (c : List Value) (o n : Nat) (k : VP) : cellP c o (some n) k = (o + n ≤ c.length ∧ k (.agg ⟨(c.drop o).take n⟩)) := rfl

def putL (c : List Value) (o : Nat) (vs : List Value) : List Value := c.take o ++ vs ++ c.drop (o + vs.length)
def stP (b : Option Blk) (o : Nat) (vs : List Value) (k : Blk → Prop) : Prop := match b with
  | some (.cells c sl) => o + vs.length ≤ c.length ∧ k (.cells (putL c o vs) sl)
  | _ => False
theorem putCK_eq (H : Heap) (b o : Nat) (vs : List Value) (k : Heap → Prop) : putCK H ⟨b, o, none⟩ vs False k = stP (getH H b) o vs fun blk => k (hs H b (some blk)) := by
  unfold putCK stP
  dsimp only
  rw [getB_eq]
  cases getH H b with
  | none => rfl
  | some blk =>
    cases blk with
    | map es q => rfl
    | rom c => rfl
    | cells c sl =>
      dsimp only [Option.elim_some]
      by_cases h : o + vs.length ≤ c.length
      · rw [Nat.ble_eq_true_of_le h]; simp only [cond_true]; rw [spine_eq, hsK_eq]; simp [h, putL]
      · have : Nat.ble (o + vs.length) c.length = false := by
          cases hb : Nat.ble (o + vs.length) c.length with
          | false => rfl
          | true => exact absurd (Nat.le_of_ble_eq_true hb) h
        rw [this]; simp [h]
theorem wSt_eq {v : Value} {size : Nat} (h1 : v.cells.toList.length = size) (h2 : oneCells v.cells.toList = true) (b o : Nat) (H : Heap) (k : Heap → Prop) : wSt (.pointer (some ⟨b, o, none⟩)) v size H k = stP (getH H b) o v.cells.toList fun blk => k (hs H b (some blk)) := by
  show cond (Nat.beq v.cells.toList.length size && oneCells v.cells.toList) (putCK H ⟨b, o, none⟩ v.cells.toList False k) False = _
  rw [h2, h1]
  have : Nat.beq size size = true := by simp
  rw [this]
  exact putCK_eq H b o _ k
theorem wSt_agg (l : List Value) (size b o : Nat) (H : Heap) (k : Heap → Prop) : wSt (.pointer (some ⟨b, o, none⟩)) (.agg ⟨l⟩) size H k = if l.length = size ∧ oneCells l = true then stP (getH H b) o l fun blk => k (hs H b (some blk)) else False := by
  by_cases h : l.length = size ∧ oneCells l = true
  · rw [if_pos h]; exact wSt_eq (v := .agg ⟨l⟩) h.1 h.2 b o H k
  · rw [if_neg h]
    show cond (Nat.beq l.length size && oneCells l) (putCK H ⟨b, o, none⟩ l False k) False = False
    have : (Nat.beq l.length size && oneCells l) = false := by
      cases hb : (Nat.beq l.length size && oneCells l) with
      | false => rfl
      | true =>
        rw [Bool.and_eq_true] at hb
        exact absurd ⟨Nat.eq_of_beq_eq_true hb.1, hb.2⟩ h
    rw [this]; rfl
section
variable (b o : Nat) (H : Heap) (k : Heap → Prop)
theorem wSt_int (K : IntKind) (n : Int) : wSt (.pointer (some ⟨b, o, none⟩)) (.int K n) 1 H k = stP (getH H b) o [.int K n] fun blk => k (hs H b (some blk)) := wSt_eq (v := .int K n) rfl rfl b o H k
theorem wSt_bool (x : Bool) : wSt (.pointer (some ⟨b, o, none⟩)) (.bool x) 1 H k = stP (getH H b) o [.bool x] fun blk => k (hs H b (some blk)) := wSt_eq (v := .bool x) rfl rfl b o H k
theorem wSt_string (x : ByteArray) : wSt (.pointer (some ⟨b, o, none⟩)) (.string x) 1 H k = stP (getH H b) o [.string x] fun blk => k (hs H b (some blk)) := wSt_eq (v := .string x) rfl rfl b o H k
theorem wSt_slice (A : Option Addr) (n c : Nat) : wSt (.pointer (some ⟨b, o, none⟩)) (.slice A n c) 1 H k = stP (getH H b) o [.slice A n c] fun blk => k (hs H b (some blk)) := wSt_eq (v := .slice A n c) rfl rfl b o H k
theorem wSt_ptr (A : Option Addr) : wSt (.pointer (some ⟨b, o, none⟩)) (.pointer A) 1 H k = stP (getH H b) o [.pointer A] fun blk => k (hs H b (some blk)) := wSt_eq (v := .pointer A) rfl rfl b o H k
theorem wSt_map (r : Option Nat) : wSt (.pointer (some ⟨b, o, none⟩)) (.map r) 1 H k = stP (getH H b) o [.map r] fun blk => k (hs H b (some blk)) := wSt_eq (v := .map r) rfl rfl b o H k
theorem wSt_func (f : Fn) (x y : Array Value) : wSt (.pointer (some ⟨b, o, none⟩)) (.func f x y) 1 H k = stP (getH H b) o [.func f x y] fun blk => k (hs H b (some blk)) := wSt_eq (v := .func f x y) rfl rfl b o H k
end
theorem stP_cells (c : List Value) (sl o : Nat) (vs : List Value) (k : Blk → Prop) : stP (some (.cells c sl)) o vs k = (o + vs.length ≤ c.length ∧ k (.cells (putL c o vs) sl)) := rfl
theorem putL_one {c : List Value} {o : Nat} {v : Value} (h : o < c.length) : putL c o [v] = c.set o v := by
  unfold putL
  rw [List.set_eq_take_append_cons_drop, if_pos h]; simp
theorem putL_all {c vs : List Value} (h : vs.length = c.length) : putL c 0 vs = vs := by
  unfold putL; simp [h]
theorem getH_same (H : Heap) (i : Nat) (b : Option Blk) : getH (hs H i b) i = b := by rw [getH_hs, if_pos rfl]
theorem getH_ne {H : Heap} {i j : Nat} (b : Option Blk) (h : j ≠ i) : getH (hs H i b) j = getH H j := by rw [getH_hs, if_neg h]

/-! Append. -/
theorem firstK_slice (H : Heap) (size n : Nat) (b o len cap : Nat) (k : List Value → Prop) (hn : 0 < n * size) : firstK H size n (.slice (some ⟨b, o, none⟩) len cap) False k = match (getH H b).bind Blk.row with
    | some c => o + n * size ≤ c.length ∧ k ((c.drop o).take (n * size))
    | none => False := by
  unfold firstK rowK
  dsimp only
  rw [getB_eq]
  have main : ∀ c : List Value, (match takeN (n * size) (c.drop o) with | some l => spine l k | none => False) = (o + n * size ≤ c.length ∧ k ((c.drop o).take (n * size))) := by
    intro c
    by_cases h : o + n * size ≤ c.length
    · rw [takeN_some (by simp; omega)]; dsimp only; rw [spine_eq]; simp [h]
    · rw [takeN_none (by simp; omega)]; simp [h]
  cases getH H b with
  | none => rfl
  | some blk =>
    cases blk with
    | map es q => rfl
    | cells c sl => exact main c
    | rom c => exact main c
end Go.Clo

set_option linter.unusedSimpArgs false
set_option linter.unusedVariables false
set_option linter.unusedSectionVars false
namespace Go.Clo

/-- The vertices of a that are not of b. -/
def ndiff (a b : Nat) : Nat := a ^^^ (a &&& b)
theorem ndiff_bit (a b i : Nat) : (ndiff a b).testBit i = (a.testBit i && !b.testBit i) := by
  unfold ndiff; rw [Nat.testBit_xor, Nat.testBit_and]; cases a.testBit i <;> cases b.testBit i <;> rfl
theorem ndiff_lt {a b n : Nat} (h : a < 2 ^ n) : ndiff a b < 2 ^ n := Nat.xor_lt_two_pow h (Nat.and_lt_two_pow' _ h)
where
  Nat.and_lt_two_pow' {x n : Nat} (y : Nat) (h : x < 2 ^ n) : x &&& y < 2 ^ n := Nat.lt_of_le_of_lt Nat.and_le_left h
abbrev U32 : Nat := 4294967296
theorem u32_wrap {a : Nat} (h : a < 4294967296) : IntKind.u32.wrap (a : Int) = a := by
  simp only [IntKind.wrap, IntKind.signed, IntKind.bits]; simp; omega
theorem u32_wrap' {a : Int} (h : 0 ≤ a) (h2 : a < 4294967296) : IntKind.u32.wrap a = a := by
  obtain ⟨n, rfl⟩ := Int.eq_ofNat_of_zero_le h; exact u32_wrap (by omega)
theorem ofInt_nat (w a : Nat) : BitVec.ofInt w (a : Int) = BitVec.ofNat w a := by
  apply BitVec.eq_of_toNat_eq; simp
theorem lt32 {a b : Nat} (h : a < 4294967296) : a &&& b < 4294967296 := Nat.lt_of_le_of_lt Nat.and_le_left h
theorem or32 {a b : Nat} (ha : a < 4294967296) (hb : b < 4294967296) : a ||| b < 4294967296 := Nat.or_lt_two_pow (n := 32) ha hb
theorem xor32 {a b : Nat} (ha : a < 4294967296) (hb : b < 4294967296) : a ^^^ b < 4294967296 := Nat.xor_lt_two_pow (n := 32) ha hb
theorem ndiff32 {a b : Nat} (ha : a < 4294967296) : ndiff a b < 4294967296 := ndiff_lt (n := 32) ha

section
variable {a b : Nat} (k : VP)
theorem wBin_and32 (ha : a < 4294967296) (hb : b < 4294967296) : wBin .and (.int .u32 (a : Int)) (.int .u32 (b : Int)) k = k (.int .u32 ((a &&& b : Nat) : Int)) := by
  rw [wBin_eq]
  show k (.int .u32 (IntKind.u32.wrap ((BitVec.ofInt 32 (a : Int) &&& BitVec.ofInt 32 (b : Int)).toNat : Int))) = _
  rw [ofInt_nat, ofInt_nat, BitVec.toNat_and, BitVec.toNat_ofNat, BitVec.toNat_ofNat, Nat.mod_eq_of_lt (by simpa using ha), Nat.mod_eq_of_lt (by simpa using hb), u32_wrap (lt32 ha)]
theorem wBin_or32 (ha : a < 4294967296) (hb : b < 4294967296) : wBin .or (.int .u32 (a : Int)) (.int .u32 (b : Int)) k = k (.int .u32 ((a ||| b : Nat) : Int)) := by
  rw [wBin_eq]
  show k (.int .u32 (IntKind.u32.wrap ((BitVec.ofInt 32 (a : Int) ||| BitVec.ofInt 32 (b : Int)).toNat : Int))) = _
  rw [ofInt_nat, ofInt_nat, BitVec.toNat_or, BitVec.toNat_ofNat, BitVec.toNat_ofNat, Nat.mod_eq_of_lt (by simpa using ha), Nat.mod_eq_of_lt (by simpa using hb), u32_wrap (or32 ha hb)]
theorem wBin_andNot32 (ha : a < 4294967296) (hb : b < 4294967296) : wBin .andNot (.int .u32 (a : Int)) (.int .u32 (b : Int)) k = k (.int .u32 ((ndiff a b : Nat) : Int)) := by
  rw [wBin_eq]
  show k (.int .u32 (IntKind.u32.wrap ((BitVec.ofInt 32 (a : Int) &&& ~~~(BitVec.ofInt 32 (b : Int))).toNat : Int))) = _
  rw [ofInt_nat, ofInt_nat]
  have e : (BitVec.ofNat 32 a &&& ~~~(BitVec.ofNat 32 b)).toNat = ndiff a b := by
    apply Nat.eq_of_testBit_eq
    intro i
    rw [ndiff_bit, BitVec.testBit_toNat, BitVec.getLsbD_and, BitVec.getLsbD_not, BitVec.getLsbD_ofNat, BitVec.getLsbD_ofNat]
    by_cases hi : i < 32
    · simp [hi]
    · have : a.testBit i = false := Nat.testBit_lt_two_pow (Nat.lt_of_lt_of_le ha (Nat.pow_le_pow_right (n := 2) (by omega) (show 32 ≤ i by omega)))
      simp [hi, this]
  rw [e, u32_wrap (ndiff32 ha)]
theorem wBin_shr32 {n : Nat} {K : IntKind} (ha : a < 4294967296) : wBin .shr (.int .u32 (a : Int)) (.int K (n : Int)) k = k (.int .u32 ((a >>> n : Nat) : Int)) := by
  rw [wBin_eq]
  have hn : ¬ (n : Int) < 0 := by omega
  simp only [binV, isShift, shiftV, cond_true, hn, if_false, Option.elim_some, IntKind.bits]
  congr 2
  have e : ((2 : Int) ^ min ((n : Int)).toNat 32) = ((2 ^ min n 32 : Nat) : Int) := by simp
  rw [e, Int.fdiv_eq_ediv_of_nonneg _ (Int.natCast_nonneg _), ← Int.natCast_ediv, Nat.shiftRight_eq_div_pow]
  congr 1
  by_cases h : n ≤ 32
  · rw [Nat.min_eq_left h]
  · rw [Nat.min_eq_right (by omega), Nat.div_eq_of_lt (by simpa using ha), Nat.div_eq_of_lt (Nat.lt_of_lt_of_le ha (by
      have := Nat.pow_le_pow_right (n := 2) (by omega) (show 32 ≤ n by omega)
      simpa using this))]
theorem wBin_shl32 {n : Nat} {K : IntKind} (hn : n < 32) : wBin .shl (.int .u32 1) (.int K (n : Int)) k = k (.int .u32 ((2 ^ n : Nat) : Int)) := by
  rw [wBin_eq]
  have h0 : ¬ (n : Int) < 0 := by omega
  simp only [binV, isShift, shiftV, cond_true, h0, if_false, Option.elim_some, IntKind.bits]
  congr 2
  have e : (1 * (2 : Int) ^ min ((n : Int)).toNat 32) = ((2 ^ n : Nat) : Int) := by
    have : min n 32 = n := by omega
    simp [this]
  rw [e, u32_wrap]
  exact Nat.lt_of_lt_of_le (Nat.pow_lt_pow_right (by omega) hn) (by decide)
theorem wBin_and1 (ha : a < 4294967296) : wBin .and (.int .u32 (a : Int)) (.int .u32 1) k = k (.int .u32 ((a % 2 : Nat) : Int)) := by
  have := wBin_and32 (b := 1) k ha (by omega)
  rw [Nat.and_one_is_mod] at this
  exact this
theorem wBin_rem2 (ha : a < 4294967296) : wBin .rem (.int .u32 (a : Int)) (.int .u32 2) k = k (.int .u32 ((a % 2 : Nat) : Int)) := by
  rw [wBin_rem _ _ _ _ (by omega)]
  congr 2
theorem shr_lt {n : Nat} (ha : a < 4294967296) : a >>> n < 4294967296 := Nat.lt_of_le_of_lt (Nat.shiftRight_le a n) ha
theorem bit_one (a n : Nat) : decide ((((a >>> n) % 2 : Nat) : Int) = 1) = a.testBit n := by
  rw [Nat.testBit_eq_decide_div_mod_eq, Nat.shiftRight_eq_div_pow]
  congr 1; apply propext; omega
theorem bit_zero (a n : Nat) : decide ((((a >>> n) % 2 : Nat) : Int) = 0) = !a.testBit n := by
  rw [Nat.testBit_eq_decide_div_mod_eq, Nat.shiftRight_eq_div_pow]
  generalize a / 2 ^ n = m
  rw [Bool.eq_iff_iff]
  simp only [decide_eq_true_eq, Bool.not_eq_true', decide_eq_false_iff_not]; omega
theorem bit_zero' (a n : Nat) : decide ((a >>> n) % 2 = 0) = !a.testBit n := by rw [← bit_zero]; congr 1; apply propext; omega
theorem bit_one' (a n : Nat) : decide ((a >>> n) % 2 = 1) = a.testBit n := by rw [← bit_one]; congr 1; apply propext; omega
theorem u32_eq_zero (a : Nat) : decide ((a : Int) = 0) = decide (a = 0) := by congr 1; apply propext; omega
theorem u32_ne_zero (a : Nat) : decide ((a : Int) ≠ 0) = decide (a ≠ 0) := by congr 1; apply propext; omega
theorem u32_eq (a b : Nat) : decide ((a : Int) = (b : Int)) = decide (a = b) := by congr 1; apply propext; omega
theorem u32_ne (a b : Nat) : decide ((a : Int) ≠ (b : Int)) = decide (a ≠ b) := by congr 1; apply propext; omega
end
end Go.Clo

set_option linter.unusedSimpArgs false
set_option linter.unusedVariables false
set_option linter.unusedSectionVars false
namespace Go.Clo

noncomputable def rowOf (H : Heap) (b : Nat) : Option (List Value) := (getH H b).bind Blk.row
theorem ldP_row {H : Heap} {b : Nat} {row : List Value} (h : rowOf H b = some row) (o : Nat) (size : Option Nat) (k : VP) : ldP (getH H b) o size k = cellP row o size k := by
  unfold rowOf at h
  cases hg : getH H b with
  | none => rw [hg] at h; cases h
  | some blk =>
    rw [hg] at h
    cases blk with
    | map es q => cases h
    | cells c sl => cases h; rfl
    | rom c => cases h; rfl
theorem Ext.row {H : Heap} {nx : Nat} {H' : Heap} {nx' b : Nat} (h : Ext H nx H' nx') (hb : b < nx) : rowOf H' b = rowOf H b := by unfold rowOf; rw [h.get b hb]

/-- The slice at A holds these cells. -/
def Sl (H : Heap) (nx : Nat) (A : Option Addr) (c : List Value) : Prop :=
  ∀ i v, c[i]? = some v → ∃ b o row, A = some ⟨b, o, none⟩ ∧ b < nx ∧ rowOf H b = some row ∧ row[o + i]? = some v
theorem Sl.ext {H : Heap} {nx : Nat} {H' : Heap} {nx' : Nat} {A : Option Addr} {c : List Value} (h : Sl H nx A c) (e : Ext H nx H' nx') : Sl H' nx' A c := fun i v hv =>
  let ⟨b, o, row, h1, h2, h3, h4⟩ := h i v hv
  ⟨b, o, row, h1, Nat.lt_of_lt_of_le h2 e.le, by rw [e.row h2]; exact h3, h4⟩
theorem Sl.nil (H : Heap) (nx : Nat) (A : Option Addr) : Sl H nx A [] := fun i v h => by simp at h
theorem Sl.open {H : Heap} {nx : Nat} {A : Option Addr} {c : List Value} (h : Sl H nx A c) {i : Nat} (hi : i < c.length) :
    ∃ b o row, A = some ⟨b, o, none⟩ ∧ b < nx ∧ rowOf H b = some row ∧ ∀ j v, c[j]? = some v → row[o + j]? = some v := by
  obtain ⟨b, o, row, h1, h2, h3, _⟩ := h i c[i] (List.getElem?_eq_getElem hi)
  refine ⟨b, o, row, h1, h2, h3, fun j v hv => ?_⟩
  obtain ⟨b', o', row', g1, g2, g3, g4⟩ := h j v hv
  rw [h1] at g1; cases g1
  rw [h3] at g3; cases g3
  exact g4
theorem cellP_list {row : List Value} {o n : Nat} {l : List Value} (hl : l.length = n) (h : ∀ j v, l[j]? = some v → row[o + j]? = some v) (k : VP) (hn : 0 < n) : cellP row o (some n) k = k (.agg ⟨l⟩) := by
  have hlen : o + n ≤ row.length := by
    have := h (n - 1) l[n - 1] (List.getElem?_eq_getElem (by omega))
    rcases Nat.lt_or_ge (o + (n - 1)) row.length with g | g
    · omega
    · rw [List.getElem?_eq_none g] at this; cases this
  have e : (row.drop o).take n = l := by
    apply List.ext_getElem?
    intro j
    by_cases hj : j < n
    · rw [List.getElem?_take, if_pos hj, List.getElem?_drop, h j l[j] (List.getElem?_eq_getElem (by omega)), List.getElem?_eq_getElem (by omega)]
    · rw [List.getElem?_take, if_neg hj, List.getElem?_eq_none (by omega)]
  rw [cellP_agg, e]; simp [hlen]
theorem cellP_3 {row : List Value} {o : Nat} {x y z : Value} (h0 : row[o]? = some x) (h1 : row[o + 1]? = some y) (h2 : row[o + 2]? = some z) (k : VP) : cellP row o (some 3) k = k (.agg ⟨[x, y, z]⟩) :=
  cellP_list (l := [x, y, z]) rfl (fun j v hv => by
    match j, hv with
    | 0, hv => simp at hv; subst hv; simpa using h0
    | 1, hv => simp at hv; subst hv; exact h1
    | 2, hv => simp at hv; subst hv; exact h2
    | j + 3, hv => simp at hv) k (by simp)
theorem cellP_lit {l : List Value} (k : VP) : cellP l 0 (some l.length) k = k (.agg ⟨l⟩) := by rw [cellP_agg]; simp
theorem cellP_lit2 (x y : Value) (k : VP) : cellP [x, y] 0 (some 2) k = k (.agg ⟨[x, y]⟩) := cellP_lit (l := [x, y]) k
theorem cellP_lit3 (x y z : Value) (k : VP) : cellP [x, y, z] 0 (some 3) k = k (.agg ⟨[x, y, z]⟩) := cellP_lit (l := [x, y, z]) k
theorem putL_lit2 (a b x y : Value) : putL [a, b] 0 [x, y] = [x, y] := rfl
theorem putL_lit3 (a b c x y z : Value) : putL [a, b, c] 0 [x, y, z] = [x, y, z] := rfl

/-! Numbers in memory. -/
def u32s (es : List Nat) : List Value := es.map fun (e : Nat) => Value.int .u32 (e : Int)
def i64s (xs : List Int) : List Value := xs.map fun x => Value.int .i64 x
def Small (es : List Nat) : Prop := ∀ e ∈ es, e < 4294967296
theorem u32s_get {es : List Nat} {i e : Nat} (h : es[i]? = some e) : (u32s es)[i]? = some (.int .u32 (e : Int)) := by simp [u32s, h]
theorem i64s_get {xs : List Int} {i : Nat} {x : Int} (h : xs[i]? = some x) : (i64s xs)[i]? = some (.int .i64 x) := by simp [i64s, h]
theorem u32s_length (es : List Nat) : (u32s es).length = es.length := by simp [u32s]
theorem i64s_length (xs : List Int) : (i64s xs).length = xs.length := by simp [i64s]
theorem Small.get {es : List Nat} (h : Small es) {i e : Nat} (he : es[i]? = some e) : e < 4294967296 := h e (List.mem_of_getElem? he)
end Go.Clo

set_option linter.unusedSimpArgs false
set_option linter.unusedVariables false
set_option linter.unusedSectionVars false
namespace Go.Clo

/-- A slice of n elements (c: their cells) that was made by append, in a block from lo on. -/
def Acc (lo : Nat) (H : Heap) (nx : Nat) (size : Nat) (v : Value) (n : Nat) (c : List Value) : Prop :=
  c.length = n * size ∧ ((n = 0 ∧ v = .slice none 0 0) ∨ ∃ b, lo ≤ b ∧ b < nx ∧ v = .slice (some ⟨b, 0, none⟩) n n ∧ getH H b = some (.cells c size))
theorem Acc.nil (lo : Nat) (H : Heap) (nx size : Nat) : Acc lo H nx size (.slice none 0 0) 0 [] := ⟨by simp, .inl ⟨rfl, rfl⟩⟩
theorem Acc.ext {lo : Nat} {H : Heap} {nx size : Nat} {v : Value} {n : Nat} {c : List Value} {H' : Heap} {nx' : Nat} (h : Acc lo H nx size v n c) (e : Ext H nx H' nx') : Acc lo H' nx' size v n c := by
  refine ⟨h.1, h.2.imp id ?_⟩
  rintro ⟨b, h1, h2, h3, h4⟩
  exact ⟨b, h1, Nat.lt_of_lt_of_le h2 e.le, h3, by rw [e.get b h2]; exact h4⟩
theorem Acc.sl {lo : Nat} {H : Heap} {nx size : Nat} {v : Value} {n : Nat} {c : List Value} (h : Acc lo H nx size v n c) : ∃ A, v = .slice A n n ∧ Sl H nx A c := by
  obtain ⟨hl, h⟩ := h
  rcases h with ⟨rfl, rfl⟩ | ⟨b, h1, h2, rfl, h4⟩
  · refine ⟨none, rfl, ?_⟩
    simp at hl; subst hl; exact Sl.nil _ _ _
  · refine ⟨_, rfl, fun i u hu => ⟨b, 0, c, rfl, h2, by simp [rowOf, h4, Blk.row], by simpa using hu⟩⟩

theorem bltrue {a b : Nat} (h : a ≤ b) : Nat.ble a b = true := Nat.ble_eq_true_of_le h
theorem blfalse {a b : Nat} (h : b < a) : Nat.ble a b = false := by
  cases hb : Nat.ble a b with
  | false => rfl
  | true => exact absurd (Nat.le_of_ble_eq_true hb) (by omega)
theorem beqtrue (a : Nat) : Nat.beq a a = true := by simp
theorem beqfalse {a b : Nat} (h : a ≠ b) : Nat.beq a b = false := by
  cases hb : Nat.beq a b with
  | false => rfl
  | true => exact absurd (Nat.eq_of_beq_eq_true hb) h

/-- What is appended: m elements, their cells l. -/
structure Src (H : Heap) (size : Nat) (x : Value) (m : Nat) (l : List Value) : Prop where
  len : lenA x = some m
  first : ∀ k : List Value → Prop, firstK H size m x False k = k l
  size : l.length = m * size
theorem src_new {H : Heap} {size b m cap : Nat} {l : List Value} {sl : Nat} (hg : getH H b = some (.cells l sl)) (hl : l.length = m * size) (hm : 0 < m * size) : Src H size (.slice (some ⟨b, 0, none⟩) m cap) m l := by
  refine ⟨rfl, fun k => ?_, hl⟩
  rw [firstK_slice _ _ _ _ _ _ _ _ hm, hg]
  simp only [Option.bind_some, Blk.row]
  simp [← hl]
theorem src_sl {H : Heap} {nx size : Nat} {A : Option Addr} {m cap : Nat} {l : List Value} (h : Sl H nx A l) (hl : l.length = m * size) (hm : 0 < m * size) : Src H size (.slice A m cap) m l := by
  obtain ⟨b, o, row, rfl, hb, hrow, hget⟩ := h.open (i := 0) (by omega)
  refine ⟨rfl, fun k => ?_, hl⟩
  rw [firstK_slice _ _ _ _ _ _ _ _ hm]
  unfold rowOf at hrow
  rw [hrow]
  have := cellP_list (row := row) (o := o) (n := m * size) hl hget (fun v => match v with | .agg a => k a.toList | _ => False) hm
  rw [cellP_agg] at this
  exact this

theorem wApp_acc {lo : Nat} {H : Heap} {nx size bytes : Nat} {v : Value} {n : Nat} {c : List Value} {x : Value} {m : Nat} {l : List Value} {H0 : Heap} {k : EP} (hsz : 0 < size) (hA : Acc lo H nx size v n c) (hx : Src H size x m l) (hm : 0 < m) (ho : oneCells l = true)
    (hb1 : (2 * (n + m) + 1000) * bytes ≤ 281474976710656) (hb2 : n + m ≤ 1000000000) (hE : Ext H0 lo H nx) (hlo : lo ≤ nx)
    (hk : ∀ v' H', Acc lo H' (nx + 1) size v' (n + m) (c ++ l) → Ext H0 lo H' (nx + 1) → (∀ i, i < nx → (∀ A n' c', v = .slice (some A) n' c' → A.block ≠ i) → getH H' i = getH H i) → k v' H' (nx + 1)) : wApp v x size bytes H nx k := by
  obtain ⟨hl, hA⟩ := hA
  have hlen : (c ++ l).length = (n + m) * size := by rw [List.length_append, hl, hx.size, Nat.add_mul]
  unfold wApp appK
  rcases hA with ⟨rfl, rfl⟩ | ⟨b, h1, h2, rfl, h4⟩
  · have hc : c = [] := by simp at hl; exact hl
    subst hc
    rw [hx.len]
    dsimp only
    rw [forceN_eq, bltrue hb1, bltrue hb2]
    simp only [Bool.and_self, cond_true]
    rw [hx.first, ho, blfalse (show 0 < 0 + m by omega)]
    simp only [cond_true, cond_false]
    show spine ([] ++ l) _
    rw [spine_eq]
    have e : ([] ++ l).length = (0 + m) * size := hlen
    rw [e, beqtrue]
    simp only [cond_true, appOut, appNew]
    rw [forceN_eq, forceN_eq, hsK_eq]
    refine hk _ _ ⟨hlen, .inr ⟨nx, hlo, by omega, rfl, getH_same _ _ _⟩⟩ (hE.new _ hlo (by omega)) fun i hi _ => getH_ne _ (by omega)
  · rw [hx.len]
    dsimp only
    rw [forceN_eq, bltrue hb1, bltrue hb2]
    simp only [Bool.and_self, cond_true]
    rw [hx.first, ho, blfalse (show n < n + m by omega)]
    simp only [cond_true, cond_false]
    have hold : ∀ k : List Value → Prop, firstK H size n (.slice (some ⟨b, 0, none⟩) n n) False k = k c := by
      intro k
      rcases Nat.eq_zero_or_pos n with h0 | h0
      · subst h0
        simp at hl; subst hl
        unfold firstK rowK
        dsimp only
        rw [getB_eq, h4]
        simp only [Option.elim_some, Nat.zero_mul, takeN]
        exact spine_eq _ _
      · exact (src_new h4 hl (Nat.mul_pos h0 hsz)).first k
    rw [hold, spine_eq, hlen, beqtrue]
    simp only [cond_true, appOut]
    rw [getB_eq, h4]
    simp only [Option.elim_some]
    have hls : looseA (.cells c size) 0 n size = some true := by
      simp only [looseA]
      rw [beqfalse (show size ≠ 0 by omega), beqtrue]
      simp only [cond_false, cond_true]
      rw [hl, Nat.zero_add, beqtrue]
    rw [hls]
    dsimp only
    rw [hsK_eq]
    simp only [appNew]
    rw [forceN_eq, forceN_eq, hsK_eq]
    refine hk _ _ ⟨hlen, .inr ⟨nx, hlo, by omega, rfl, getH_same _ _ _⟩⟩ ((hE.new _ h1 (Nat.le_refl _)).new _ hlo (by omega)) fun i hi hne => ?_
    rw [getH_ne _ (by omega), getH_ne _ (fun h => hne _ _ _ rfl h.symm)]
end Go.Clo
