/-
  The closed executor: slicing; the operations that only compute, joined; the operations that read.
-/
import Derived.Test.YtdecggbglnbhlaaGreatDoorClo5
set_option linter.unusedSimpArgs false
set_option linter.unusedVariables false
set_option linter.unusedSectionVars false
namespace Go.Clo

def OV (F : FM) (x x' : Option Value) : Prop := (x = none ∧ x' = none) ∨ ∃ v v', x = some v ∧ x' = some v' ∧ VR F v v'

theorem OV.of {n : Nat} {o : Oper} {F : FM} {T : Tree Value} {a : Act} (ht : OR n o F T a) {x : Option Operand} {y : Option X} (h : compO n x = some y) (hm : ∀ q, x = some q → q ∈ o.op.operands := by rw [(‹o.op = _› : o.op = _)]; intro q hq; subst hq; simp [Op.operands]) : OV F (y.map (ev T)) (x.map a.eval) := by
  rcases evO ht h hm with ⟨rfl, rfl⟩ | ⟨x1, y1, rfl, rfl, hv⟩
  · exact .inl ⟨rfl, rfl⟩
  · exact .inr ⟨_, _, rfl, rfl, hv⟩

theorem bound_run {F : FM} {P : Program} {v v' : Value} {top top' m : Nat} (h : boundA (some v) top = some m) (hv : VR F v v') (ht : top ≤ top') (code : BoundsCode) (w : World) :
    (Instr.sliceBound v' top' code).run P w = .ok m w ∧ m ≤ top := by
  simp only [boundA] at h
  split at h
  · rename_i kk nn
    split at h
    · rename_i q
      cases hb : Nat.ble q top with
      | false => rw [hb] at h; cases h
      | true =>
        rw [hb] at h; simp only [cond_true, Option.some.injEq] at h; subst h
        have hq : q ≤ top := Nat.le_of_ble_eq_true hb
        rw [hv.int_inv]
        refine ⟨?_, hq⟩
        have : q ≤ top' := Nat.le_trans hq ht
        simp [Instr.sliceBound, asIntOf, this]
    · cases h
  · cases h

/-- The bounds as the model finds them. -/
theorem bounds_run {F : FM} {P : Program} {lo hi mx lo' hi' mx' : Option Value} (hlo : OV F lo lo') (hhi : OV F hi hi') (hmx : OV F mx mx') {len cap cap' m h l : Nat} (hcap : cap ≤ cap')
    (em : boundA mx cap = some m)
    (eh : hiA hi mx len m = some h)
    (el : loA lo h = some l) (isS : Bool) (w : World) :
    (Instr.sliceBounds isS len cap' lo' hi' mx').run P w = .ok (l, h, if mx.isNone then cap' else m) w ∧ (mx = none → m = cap) ∧ (mx ≠ none → m ≤ cap) := by
  rcases hmx with ⟨rfl, rfl⟩ | ⟨vm, vm', rfl, rfl, hvm⟩
  · simp only [boundA, Option.some.injEq] at em
    subst em
    rcases hhi with ⟨rfl, rfl⟩ | ⟨vh, vh', rfl, rfl, hvh⟩
    · simp only [hiA, Option.some.injEq] at eh
      subst eh
      rcases hlo with ⟨rfl, rfl⟩ | ⟨vl, vl', rfl, rfl, hvl⟩
      · simp only [loA, Option.some.injEq] at el
        subst el
        simp [Instr.sliceBounds]
      · have := (bound_run (P := P) el hvl (Nat.le_refl _) .sliceB w).1
        simp [Instr.sliceBounds, this]
    · have h1 := fun c => (bound_run (P := P) eh hvh hcap c w).1
      rcases hlo with ⟨rfl, rfl⟩ | ⟨vl, vl', rfl, rfl, hvl⟩
      · simp only [loA, Option.some.injEq] at el
        subst el
        simp [Instr.sliceBounds, h1]
      · have h2 := (bound_run (P := P) el hvl (Nat.le_refl _) .sliceB w).1
        simp [Instr.sliceBounds, h1, h2]
  · have h0 := fun c => (bound_run (P := P) em hvm hcap c w).1
    have h0' := (bound_run (P := P) em hvm hcap .index w).2
    rcases hhi with ⟨rfl, rfl⟩ | ⟨vh, vh', rfl, rfl, hvh⟩
    · simp [hiA] at eh
    · have h1 := fun c => (bound_run (P := P) eh hvh (Nat.le_refl _) c w).1
      rcases hlo with ⟨rfl, rfl⟩ | ⟨vl, vl', rfl, rfl, hvl⟩
      · simp only [loA, Option.some.injEq] at el
        subst el
        simp [Instr.sliceBounds, h0, h1, h0']
      · have h2 := (bound_run (P := P) el hvl (Nat.le_refl _) .slice3C w).1
        simp [Instr.sliceBounds, h0, h1, h2, h0']

/-- What 'sliceA' says. -/
theorem sliceA_inv {a : Option Addr} {len cap size : Nat} {lo hi mx : Option Value} {loose : Bool} {r : Value} (h : sliceA a len cap size lo hi mx loose = some r) :
    ∃ m hh l, boundA mx cap = some m ∧ hiA hi mx len m = some hh ∧
      loA lo hh = some l ∧
      (match a with
       | none => r = .slice none (hh - l) (m - l)
       | some a => l ≤ m ∧ ¬ (loose = true ∧ mx = none ∧ m = l ∧ l ≠ 0) ∧ r = .slice (some (if m = l then a else { block := a.block, off := a.off + l * size, spot := a.spot })) (hh - l) (m - l)) := by
  unfold sliceA at h
  split at h
  · cases h
  · rename_i m em
    split at h
    · cases h
    · rename_i hh eh
      split at h
      · cases h
      · rename_i l el
        refine ⟨m, hh, l, em, eh, el, ?_⟩
        split at h
        · simp only [Option.some.injEq] at h; exact h.symm
        · rename_i a
          cases hb : ((loose && mx.isNone && Nat.beq m l && !(Nat.beq l 0)) || !(Nat.ble l m)) with
          | true => rw [hb] at h; cases h
          | false =>
            rw [hb] at h; simp only [cond_false, Option.some.injEq] at h
            subst h
            rw [Bool.or_eq_false_iff] at hb
            obtain ⟨hb, hle⟩ := hb
            refine ⟨by simpa using hle, ?_, ?_⟩
            · rintro ⟨rfl, rfl, rfl, h0⟩
              simp [h0] at hb
            · by_cases hml : m = l
              · subst hml; simp
              · have : Nat.beq m l = false := by
                  cases hq : Nat.beq m l with
                  | false => rfl
                  | true => exact absurd (Nat.eq_of_beq_eq_true hq) hml
                simp [this, hml]

section
variable {β : Type} {P : Program} {d n : Nat} {o : Oper} {T : Tree Value}

theorem slA_sound {t : TypeId} {x : Operand} {lo hi mx : Option Operand} {X1 : X} {L1 H1 M1 : Option X} {kk : Nat} {e : TypeId} {i : TypeInfo} (ho : o.op = .slice t x lo hi mx) (hx : compX n x = some X1)
    (hlo : compO n lo = some L1) (hhi : compO n hi = some H1) (hmx : compO n mx = some M1) (hu : P.underlying t = some (.array kk e)) (hi' : P.info? e = some i) (z : β) (k : Value → β) :
    evP P (.slA X1 kk i.size L1 H1 M1) T z k = z ∨ ∃ v, evP P (.slA X1 kk i.size L1 H1 M1) T z k = k v ∧ PV P d n o T v := by
  show pSlA X1 kk i.size L1 H1 M1 T z k = z ∨ ∃ v, pSlA X1 kk i.size L1 H1 M1 T z k = k v ∧ _
  unfold pSlA
  rw [evK_eq, evOK_eq, evOK_eq, evOK_eq]
  split
  · rename_i a hv
    split
    · rename_i r hr
      rw [force1_eq]
      refine .inr ⟨r, rfl, fun F act w ht => ?_⟩
      obtain ⟨b, o', s'⟩ := a
      have h1 := evX ht hx
      rw [hv] at h1
      obtain ⟨rfl, tt, hF, he⟩ := h1.ptr_inv
      obtain ⟨m, hh, l, em, eh, el, _, _, hr⟩ := sliceA_inv hr
      obtain ⟨hrun, c1, c2⟩ := bounds_run (P := P) (OV.of ht hlo) (OV.of ht hhi) (OV.of ht hmx) (Nat.le_refl kk) em eh el false w
      have hm : (if (M1.map (ev T)).isNone then kk else m) = m := by
        cases hM : M1.map (ev T) with
        | none => simp [c1 hM]
        | some _ => simp
      rw [hm] at hrun
      subst hr
      refine ⟨.slice (some (if m = l then ⟨tt.blk, tt.base + o', none⟩ else ⟨tt.blk, tt.base + (o' + l * i.size), none⟩)) (hh - l) (m - l), ?_, ?_⟩
      · simp only [execOp, ho, Instr.sliceAt, Sem.run_bind, run_underlying hu, Result.andThen_ok, he, Instr.sureAddr, Sem.run_pure, hrun, run_sizeOf' hi', add_addr, Nat.add_assoc]
      · by_cases hml : m = l
        · simp only [hml, if_true]; exact .slice hF (.inl rfl)
        · simp only [hml, if_false]; exact .slice hF (.inl rfl)
    · exact .inl rfl
  · exact .inl rfl

theorem ssl_run {F : FM} {s : ByteArray} {lo hi lo' hi' : Option Value} {v : Value} (hlo : OV F lo lo') (hhi : OV F hi hi') (h : sslV s lo hi = some v) {t : TypeId} (hu : P.underlying t = some .string) (w : World) :
    (Instr.slice t (.string s) lo' hi' none).run P w = .ok v w ∧ flat v = true := by
  unfold sslV at h
  split at h
  · cases h
  · rename_i hh eh
    split at h
    · cases h
    · rename_i l el
      cases h
      refine ⟨?_, rfl⟩
      have hb := bounds_run (P := P) hlo hhi (mx := none) (mx' := none) (.inl ⟨rfl, rfl⟩) (len := s.size) (cap := s.size) (cap' := s.size) (m := s.size) (h := hh) (l := l) (Nat.le_refl _) rfl (by
        cases hi with
        | none => simpa [hiA] using eh
        | some q => simpa [hiA] using eh) (by
        cases lo with
        | none => simpa [loA] using el
        | some q => simpa [loA] using el) false w
      simp only [Instr.slice, Sem.run_bind, run_underlying hu, Result.andThen_ok, Option.isSome_none, Bool.false_eq_true, if_false, Sem.run_pure, hb.1]
theorem ssl_sound {t : TypeId} {x : Operand} {lo hi : Option Operand} {X1 : X} {L1 H1 : Option X} (ho : o.op = .slice t x lo hi none) (hx : compX n x = some X1) (hlo : compO n lo = some L1) (hhi : compO n hi = some H1) (hu : P.underlying t = some .string) (z : β) (k : Value → β) :
    evP P (.vf (.ssl L1.isSome H1.isSome) (X1 :: (L1.toList ++ H1.toList))) T z k = z ∨ ∃ v, evP P (.vf (.ssl L1.isSome H1.isSome) (X1 :: (L1.toList ++ H1.toList))) T z k = k v ∧ PV P d n o T v := by
  refine vf_intro (fun v hv => ?_) z k
  have hv' : ∃ s, ev T X1 = .string s ∧ sslV s (L1.map (ev T)) (H1.map (ev T)) = some v := by
    cases L1 <;> cases H1 <;> simp only [Option.isSome_none, Option.isSome_some, Option.toList_none, Option.toList_some, List.nil_append, List.cons_append, List.append_nil, List.map_cons, List.map_nil] at hv <;>
      (unfold VF.ev at hv; split at hv <;> first | (rename_i h0 _; cases h0; done) | (rename_i h0 h1; cases h0; simp only [List.cons.injEq, and_true] at h1; first | exact ⟨_, h1, hv⟩ | (obtain ⟨e1, e2⟩ := h1; subst e2; exact ⟨_, e1, hv⟩) | (obtain ⟨e1, e2, e3⟩ := h1; subst e2; subst e3; exact ⟨_, e1, hv⟩)) | cases hv)
  obtain ⟨s, hs, hv⟩ := hv'
  intro F act w ht
  have e1 := evX ht hx
  rw [hs] at e1
  have e1 := e1.string_inv
  obtain ⟨hrun, hfl⟩ := ssl_run (P := P) (OV.of ht hlo) (OV.of ht hhi) hv hu w
  refine ⟨v, ?_, flat_refl F v hfl⟩
  simp only [execOp, ho, Instr.sliceAt, e1, Option.map_none, Sem.run_bind, run_underlying hu, Result.andThen_ok, hrun, Sem.run_pure]
theorem scal1 {xs : List X} (hsel : ∀ cs b, o.op ≠ .select cs b) (hxs : ∀ x ∈ o.op.operands, ∃ y ∈ xs, compX n x = some y) (z : β) (k : Value → β) :
    evP P (.scal xs o) T z k = z ∨ ∃ v, evP P (.scal xs o) T z k = k v ∧ PV P d n o T v := scalK_sound hsel hxs z k

theorem compXs_mem : ∀ {l : List Operand} {ys : List X}, compXs n l = some ys → ∀ x ∈ l, ∃ y ∈ ys, compX n x = some y
  | [], ys, _, x, hx => by cases hx
  | a :: l, ys, h, x, hx => by
    simp only [compXs] at h
    cases ha : compX n a with
    | none => simp [ha] at h
    | some y => cases hl : compXs n l with
      | none => simp [ha, hl] at h
      | some ys' =>
        simp [ha, hl] at h; subst h
        rcases List.mem_cons.1 hx with rfl | hx
        · exact ⟨y, by simp, ha⟩
        · obtain ⟨y', hy', hc⟩ := compXs_mem hl x hx
          exact ⟨y', by simp [hy'], hc⟩
theorem compO_some {x : Option Operand} {y : Option X} (h : compO n x = some y) : ∀ q ∈ x.toList, ∃ r ∈ y.toList, compX n q = some r := by
  cases x with
  | none => intro q hq; cases hq
  | some x1 =>
    simp only [compO] at h
    cases hx : compX n x1 with
    | none => simp [hx] at h
    | some y1 =>
      simp [hx] at h; subst h
      intro q hq; simp at hq; subst hq
      exact ⟨y1, by simp, hx⟩

theorem soundP0 {i : IP} (h : compI0 P n o = some (.p i)) (z : β) (k : Value → β) :
    evP P i T z k = z ∨ ∃ v, evP P i T z k = k v ∧ PV P d n o T v := by
  unfold compI0 at h
  split at h
  · rename_i x ho
    cases hx : compX n x with
    | none => simp [hx] at h
    | some y => simp [hx] at h; subst h; exact mv_sound (.inl ho) hx z k
  · rename_i x ho
    cases hx : compX n x with
    | none => simp [hx] at h
    | some y => simp [hx] at h; subst h; exact mv_sound (.inr ho) hx z k
  · rename_i c a b ho
    split at h
    · rename_i h1 h2 h3; cases h; exact pick_sound ho h1 h2 h3 z k
    · cases h
  · rename_i op t x y yt ho
    split at h
    · rename_i h1 h2
      split at h
      · cases h; exact bin_sound ho h1 h2 z k
      · rename_i neg he
        have ho' : o.op = .binOp (if neg then .neq else .eql) t x y yt := by
          cases op <;> simp [isEq] at he <;> subst he <;> simpa using ho
        split at h
        · cases h; exact bin_sound ho h1 h2 z k
        · cases h; exact bin_sound ho h1 h2 z k
        · rename_i hu; cases h; exact eqb_sound ho' h1 h2 hu z k
        · rename_i hu; cases h; exact eqn_sound ho' h1 h2 hu z k
        · rename_i hu; cases h; exact eqn_sound ho' h1 h2 hu z k
        · rename_i hu; cases h; exact eqn_sound ho' h1 h2 hu z k
        · rename_i hu; cases h; exact eqn_sound ho' h1 h2 hu z k
        · rename_i fs hu
          split at h
          · rename_i offs hof; cases h; exact eqs_sound ho' h1 h2 hu hof z k
          · cases h; exact eq_sound ho' h1 h2 z k
        · cases h; exact eq_sound ho' h1 h2 z k
    · cases h
  · rename_i u t x ho
    split at h
    · rename_i h1
      cases h
      exact un_sound ho h1 z k
    · cases h
  · rename_i s x f ho
    split at h
    · rename_i fs h1 h2
      split at h
      · rename_i fd hf
        split at h
        · rename_i inf hi
          cases hz : Nat.beq inf.size 0 with
          | true => rw [hz] at h; cases h
          | false =>
            rw [hz] at h; cases h
            rw [nth_eq] at hf
            exact fld_sound ho h1 h2 (by simpa using hf) hi (fun e => by rw [e] at hz; cases hz) z k
        · cases h
      · cases h
    · cases h
  · rename_i t x ix ho
    split at h
    · rename_i h1 h2 h3
      split at h
      · rename_i hi; cases h; exact idxS_sound ho h1 h2 h3 hi z k
      · cases h
    · rename_i h1 h2 h3
      split at h
      · rename_i hi; cases h; exact idxA_sound ho h1 h2 h3 hi z k
      · cases h
    · cases h
  · rename_i x ho
    cases hx : compX n x with
    | none => simp [hx] at h
    | some y => simp [hx] at h; subst h; exact nilc_sound ho hx z k
  · rename_i x j ho
    cases hx : compX n x with
    | none => simp [hx] at h
    | some y => simp [hx] at h; subst h; exact ext_sound ho hx z k
  · rename_i t x f ho
    split at h
    · rename_i fs h1 h2
      split at h
      · rename_i fd hf
        cases hs : shapeA P fd.type with
        | none => simp [hs] at h
        | some sh =>
          simp [hs] at h; subst h
          rw [nth_eq] at hf
          exact part_sound ho h1 h2 (by simpa using hf) hs z k
      · cases h
    · cases h
  · rename_i t x ix ho
    split at h
    · rename_i h1 h2 h3
      split at h
      · rename_i hi hd; cases h; exact aidx_sound ho h1 h2 h3 hi hd z k
      · cases h
    · rename_i h1 h2 h3
      cases h
      exact sidx_sound ho h1 h2 h3 z k
    · cases h
  · rename_i t parts ho
    split at h
    · rename_i fields zz ps h1 h2 h3
      cases hp : placesA P fields.toList with
      | none => simp [hp] at h
      | some pl => simp [hp] at h; subst h; exact build_sound ho h3 h2 (.inl ⟨fields, h1, hp⟩) z k
    · rename_i kk e zz ps h1 h2 h3
      split at h
      · rename_i hi; cases h; exact build_sound ho h3 h2 (.inr ⟨_, _, _, h1, hi, rfl⟩) z k
      · cases h
    · cases h
  · rename_i t x lo hi mx ho
    split at h
    · rename_i h1 h2 h3 h4 h5
      split at h <;> cases h
    · rename_i h1 h2 h3 h4 h5
      split at h
      · rename_i hinf; cases h; exact slA_sound ho h1 h2 h3 h4 h5 hinf z k
      · cases h
    · rename_i x1 lo1 hi1 h1 h2 h3 h4 h5
      cases h
      have hmx : mx = none := by
        cases mx with
        | none => rfl
        | some q => simp only [compO] at h4; cases hq : compX n q <;> simp [hq] at h4
      subst hmx
      exact ssl_sound ho h1 h2 h3 h5 z k
    · cases h
  · rename_i fn first captured ho
    split at h
    · rename_i h1 h2; cases h; exact mkf_sound ho h1 h2 z k
    · cases h
  · rename_i t x ho
    split at h
    · cases h
    · rename_i h1 h2 h3
      cases h
      exact mki_sound ho h2 h3 (fun ms e => h1 ms e) z k
    · cases h
  all_goals first
    | (rename_i c ho
       split at h
       · split at h <;> cases h
       · split at h
         · split at h
           · split at h
             · split at h
               · cases h
               · cases hq : Nat.blt 0 _ <;> rw [hq] at h <;> cases h
             · cases h
           · cases h
         · cases h
       · split at h
         · split at h
           · cases hq : P.info? _ <;> rw [hq] at h <;> cases h
           · cases h
         · cases h
       · split at h
         · split at h <;> cases h
         · cases h
       · cases hq : compXs n c.args.toList with
         | none => rw [hq] at h; cases h
         | some xs =>
           rw [hq] at h; cases h
           rename_i hcal
           first | exact mm_sound (mx := false) ho hcal hq z k | exact mm_sound (mx := true) ho hcal hq z k
       · cases hq : compXs n c.args.toList with
         | none => rw [hq] at h; cases h
         | some xs =>
           rw [hq] at h; cases h
           rename_i hcal
           first | exact mm_sound (mx := false) ho hcal hq z k | exact mm_sound (mx := true) ho hcal hq z k
       · split at h
         · split at h
           · cases h
           · cases hq : zeroA P _ <;> rw [hq] at h <;> cases h
           · cases h
         · cases h
       · cases h)
    | (cases h; done)
    | (split at h <;> cases h; done)
    | (repeat' (first | (cases h; done) | split at h))
    | skip
  all_goals first
    | (rw [Bool.cond_eq_ite] at h; split at h <;> cases h; done)
    | (rw [Option.map_eq_some_iff] at h; obtain ⟨_, _, h⟩ := h; cases h; done)
theorem soundP {i : IP} (h : compI P n o = some (.p i)) (z : β) (k : Value → β) :
    evP P i T z k = z ∨ ∃ v, evP P i T z k = k v ∧ PV P d n o T v := by
  rcases compI_inv h with h | h
  · exact soundP0 h z k
  · cases h; exact .inl (by simp only [evP, vfK, evsK]; rfl)
end
end Go.Clo
