/-
  The closed executor: the operations that read, joined; the operations that make a block.
-/
import Derived.Test.YtdecggbglnbhlaaGreatDoorClo7
set_option linter.unusedSimpArgs false
set_option linter.unusedVariables false
set_option linter.unusedSectionVars false
namespace Go.Clo

section
variable {β : Type} {P : Program} {d n nx : Nat} {o : Oper} {T : Tree Value} {H : Heap}

/-- How much of the capacity is known. -/
theorem loose_inv0 {F : FM} {t : Tgt} {c : List Value} {sl off cap size c' : Nat} {w : World} {lo : Bool} (hb : BR F t (.cells c sl) w) (hl : looseA (.cells c sl) off cap size = some lo)
    (hc : c' = cap ∨ (0 < t.esz ∧ cap ≤ c' ∧ off + cap * t.esz = t.sz ∧ t.base + off + c' * t.esz ≤ t.rsz)) :
    cap ≤ c' ∧ (c' ≠ cap → lo = true ∧ t.esz = size ∧ 0 < size ∧ off + cap * size = t.sz ∧ t.base + off + c' * size ≤ t.rsz) := by
  obtain ⟨c1, e, h1, h2, h3, h4, h5, h6⟩ := hb
  rcases hc with rfl | ⟨g1, g2, g3, g4⟩
  · exact ⟨Nat.le_refl _, fun h => absurd rfl h⟩
  · refine ⟨g2, fun _ => ?_⟩
    unfold looseA at hl
    dsimp only at hl
    have hsl : sl ≠ 0 := by omega
    have : Nat.beq sl 0 = false := by
      cases hq : Nat.beq sl 0 with
      | false => rfl
      | true => exact absurd (Nat.eq_of_beq_eq_true hq) hsl
    rw [this] at hl
    simp only [cond_false] at hl
    cases hs : Nat.beq sl size with
    | false => rw [hs] at hl; cases hl
    | true =>
      rw [hs] at hl
      simp only [cond_true, Option.some.injEq] at hl
      have he := Nat.eq_of_beq_eq_true hs
      have hz : t.esz = size := by omega
      rw [hz] at g1 g3 g4
      refine ⟨?_, hz, g1, g3, g4⟩
      rw [← hl]
      have : off + cap * size = c.length := by omega
      simp [this]

theorem loose_inv {F : FM} {t : Tgt} {blk : Blk} {off cap size c' : Nat} {w : World} {lo : Bool} (hb : BR F t blk w) (hl : looseA blk off cap size = some lo)
    (hc : c' = cap ∨ (0 < t.esz ∧ cap ≤ c' ∧ off + cap * t.esz = t.sz ∧ t.base + off + c' * t.esz ≤ t.rsz)) :
    cap ≤ c' ∧ (c' ≠ cap → lo = true ∧ t.esz = size ∧ 0 < size ∧ off + cap * size = t.sz ∧ t.base + off + c' * size ≤ t.rsz) := by
  cases blk with
  | cells c sl => exact loose_inv0 hb hl hc
  | map es q => simp [looseA] at hl
  | rom c =>
    obtain ⟨c1, e, m, h1, h2, h3, h4, h5, h6⟩ := hb
    rcases hc with rfl | ⟨g1, g2, g3, g4⟩
    · exact ⟨Nat.le_refl _, fun h => absurd rfl h⟩
    · omega

theorem sl_sound {t : TypeId} {x : Operand} {lo hi mx : Option Operand} {X1 : X} {L1 H1 M1 : Option X} {e : TypeId} {i : TypeInfo} (ho : o.op = .slice t x lo hi mx) (hx : compX n x = some X1)
    (hlo : compO n lo = some L1) (hhi : compO n hi = some H1) (hmx : compO n mx = some M1) (hu : P.underlying t = some (.slice e)) (hi' : P.info? e = some i) (z : β) (k : Value → β) :
    evR P (.sl X1 i.size L1 H1 M1) T H z k = z ∨ ∃ v, evR P (.sl X1 i.size L1 H1 M1) T H z k = k v ∧ RV P d n nx o T H v := by
  show rSl X1 i.size L1 H1 M1 T H z k = z ∨ ∃ v, rSl X1 i.size L1 H1 M1 T H z k = k v ∧ _
  unfold rSl
  rw [evK_eq, evOK_eq, evOK_eq, evOK_eq]
  split
  · rename_i len cap hv
    split
    · rename_i r hr
      rw [force1_eq]
      refine .inr ⟨r, rfl, fun F act w ht _ => ?_⟩
      have h1 := evX ht hx
      rw [hv] at h1
      have he := h1.sliceN_inv
      obtain ⟨m, hh, l, em, eh, el, hr⟩ := sliceA_inv hr
      obtain ⟨hrun, c1, c2⟩ := bounds_run (P := P) (OV.of ht hlo) (OV.of ht hhi) (OV.of ht hmx) (Nat.le_refl cap) em eh el true w
      have hm : (if (M1.map (ev T)).isNone then cap else m) = m := by
        cases hM : M1.map (ev T) with
        | none => simp [c1 hM]
        | some _ => simp
      rw [hm] at hrun
      dsimp only at hr
      subst hr
      refine ⟨.slice none (hh - l) (m - l), ?_, .sliceN _ _⟩
      simp only [execOp, ho, Instr.sliceAt, Instr.slice, Sem.run_bind, run_underlying hu, Result.andThen_ok, he, Sem.run_pure, hrun, run_sizeOf' hi']
      simp
    · exact .inl rfl
  · rename_i a len cap hv
    rw [getB_eq]
    cases hg : getH H a.block with
    | none => exact .inl rfl
    | some blk =>
      dsimp only [Option.elim_some]
      unfold slB
      split
      · rename_i loose hls
        split
        · rename_i r hr
          rw [force1_eq]
          refine .inr ⟨r, rfl, fun F act w ht hb => ?_⟩
          obtain ⟨b, o', s'⟩ := a
          have h1 := evX ht hx
          rw [hv] at h1
          obtain ⟨rfl, tt, c', hF, he, hc⟩ := h1.slice_inv
          obtain ⟨m, hh, l, em, eh, el, hlm, hno, hr⟩ := sliceA_inv hr
          · obtain ⟨hcap, hloose⟩ := loose_inv (hb.get hF hg) hls hc
            obtain ⟨hrun, c1, c2⟩ := bounds_run (P := P) (OV.of ht hlo) (OV.of ht hhi) (OV.of ht hmx) hcap em eh el true w
            subst hr
            generalize hM : (if (M1.map (ev T)).isNone then c' else m) = m' at hrun
            refine ⟨.slice (some (if m' = l then ⟨tt.blk, tt.base + o', none⟩ else ⟨tt.blk, tt.base + (o' + l * i.size), none⟩)) (hh - l) (m' - l), ?_, ?_⟩
            · simp only [execOp, ho, Instr.sliceAt, Instr.slice, Sem.run_bind, run_underlying hu, Result.andThen_ok, he, Sem.run_pure, hrun, run_sizeOf' hi']
              by_cases hml : m' = l <;> simp [hml, add_addr, Nat.add_assoc]
            · by_cases hmm : m' = m
              · rw [hmm]
                by_cases hml : m = l
                · simp only [hml, if_true]; exact .slice hF (.inl rfl)
                · simp only [hml, if_false]; exact .slice hF (.inl rfl)
              · have hMn : M1.map (ev T) = none := by
                  cases hq : M1.map (ev T) with
                  | none => rfl
                  | some q => rw [hq] at hM; simp at hM; exact absurd hM.symm hmm
                rw [hMn] at hM; simp at hM
                subst hM
                have hmc := c1 hMn
                subst hmc
                obtain ⟨q1, q2, q3, q4, q5⟩ := hloose hmm
                have hne : c' ≠ l := by omega
                simp only [hne, if_false]
                by_cases hml : m = l
                · have hl0 : l = 0 := by
                    rcases Nat.eq_zero_or_pos l with h0 | h0
                    · exact h0
                    · exact absurd ⟨q1, hMn, hml, by omega⟩ hno
                  subst hl0
                  subst hml
                  simp only [if_true, Nat.zero_mul, Nat.add_zero, Nat.sub_self, Nat.sub_zero]
                  exact .slice hF (.inr ⟨by omega, by omega, by simpa using q4, by rw [q2]; exact q5⟩)
                · simp only [hml, if_false]
                  have e1 : o' + l * i.size + (m - l) * i.size = o' + m * i.size := by
                    have : l * i.size + (m - l) * i.size = m * i.size := by rw [← Nat.add_mul]; congr 1; omega
                    omega
                  have e2 : o' + l * i.size + (c' - l) * i.size = o' + c' * i.size := by
                    have : l * i.size + (c' - l) * i.size = c' * i.size := by rw [← Nat.add_mul]; congr 1; omega
                    omega
                  refine .slice hF (.inr ⟨by omega, by omega, by rw [q2, e1]; exact q4, ?_⟩)
                  rw [q2]
                  have q6 : tt.base + o' + c' * i.size ≤ tt.rsz := q5
                  clear hc q5 q4 hloose
                  generalize c' * i.size = A at *
                  generalize (c' - l) * i.size = B at *
                  generalize l * i.size = D at *
                  omega
        · exact .inl rfl
      · exact .inl rfl
  · exact .inl rfl

theorem len_sound {c : Call} {t : TypeId} {x : Operand} {X1 : X} {kd : Nat} {dd : TypeDesc} (ho : o.op = .call c) (hc : c.callee = .builtin .len) (ht' : c.argTypes.toList = [t]) (ha : c.args.toList = [x]) (hx : compX n x = some X1)
    (hu : P.underlying t = some dd) (hkd : (kd = 0 ∧ ∃ e, dd = .slice e) ∨ (kd = 1 ∧ dd = .string) ∨ (kd = 2 ∧ ∃ a b, dd = .map a b)) (z : β) (k : Value → β) :
    evR P (.len X1 kd) T H z k = z ∨ ∃ v, evR P (.len X1 kd) T H z k = k v ∧ RV P d n nx o T H v := by
  have hat : c.argTypes = #[t] := Array.toList_inj.1 (by simpa using ht')
  have haa : c.args = #[x] := Array.toList_inj.1 (by simpa using ha)
  have hexec : ∀ (a : Act) (w : World), (execOp a.eval o).run P w = ((Builtin.len_ #[t] o.type #[a.eval x]).run P w).andThen fun v w => .ok (.value v) w := by
    intro a w
    simp [execOp, ho, resolve, hc, invoke, builtin, hat, haa]
  have hmem : x ∈ o.op.operands := by rw [ho]; simp [Op.operands, Call.operands, hc, haa]
  show rLen X1 kd T H z k = z ∨ ∃ v, rLen X1 kd T H z k = k v ∧ _
  unfold rLen
  rw [evK_eq]
  split
  · rename_i a nn c' hv
    refine .inr ⟨_, rfl, fun F act w ht _ => ?_⟩
    obtain ⟨e, rfl⟩ : ∃ e, dd = .slice e := by rcases hkd with ⟨_, h⟩ | ⟨h, _⟩ | ⟨h, _⟩ <;> first | exact h | cases h
    have h1 := evX ht hx hmem
    rw [hv] at h1
    generalize hq : act.eval x = q at h1
    refine ⟨.int .i64 (.ofNat nn), ?_, .int _ _⟩
    rw [hexec, hq]
    cases h1 <;> simp [Builtin.len_, run_underlying hu, goInt]
  · rename_i s hv
    rw [forceN_eq]
    refine .inr ⟨_, rfl, fun F act w ht _ => ?_⟩
    obtain rfl : dd = .string := by rcases hkd with ⟨h, _⟩ | ⟨_, h⟩ | ⟨h, _⟩ <;> first | exact h | cases h
    have h1 := evX ht hx hmem
    rw [hv] at h1
    generalize hq : act.eval x = q at h1
    refine ⟨.int .i64 (.ofNat s.size), ?_, .int _ _⟩
    rw [hexec, hq]
    cases h1; simp [Builtin.len_, run_underlying hu, goInt]
  · rename_i hv
    refine .inr ⟨_, rfl, fun F act w ht _ => ?_⟩
    obtain ⟨a, b, rfl⟩ : ∃ a b, dd = .map a b := by rcases hkd with ⟨h, _⟩ | ⟨h, _⟩ | ⟨_, h⟩ <;> first | exact h | cases h
    have h1 := evX ht hx hmem
    rw [hv] at h1
    generalize hq : act.eval x = q at h1
    refine ⟨.int .i64 (.ofNat 0), ?_, .int _ _⟩
    rw [hexec, hq]
    cases h1; simp [Builtin.len_, run_underlying hu, goInt]
  · rename_i r hv
    rw [getB_eq]
    cases hg : getH H r with
    | none => exact .inl rfl
    | some blk =>
      dsimp only [Option.elim_some]
      split
      · rename_i l cl
        rw [forceN_eq]
        refine .inr ⟨_, rfl, fun F act w ht hb => ?_⟩
        obtain ⟨a, b, rfl⟩ : ∃ a b, dd = .map a b := by rcases hkd with ⟨h, _⟩ | ⟨h, _⟩ | ⟨_, h⟩ <;> first | exact h | cases h
        have h1 := evX ht hx hmem
        rw [hv] at h1
        generalize hq : act.eval x = q at h1
        cases h1 with
        | map hF =>
          obtain ⟨_, es', hw, hel⟩ := hb.get hF hg
          refine ⟨.int .i64 (.ofNat l.length), ?_, .int _ _⟩
          rw [hexec, hq]
          have := hel.length
          simp [Builtin.len_, run_underlying hu, goInt, run_getObj_map hw, this]
      · exact .inl rfl
  · exact .inl rfl

theorem soundR {i : IR} (hI : compI P n o = some (.r i)) (z : β) (k : Value → β) :
    evR P i T H z k = z ∨ ∃ v, evR P i T H z k = k v ∧ RV P d n nx o T H v := by
  have h := (compI_inv hI).resolve_right (by simp)
  clear hI
  unfold compI0 at h
  split at h
  case h_13 =>
    rename_i t x lo hi mx ho
    split at h
    · rename_i h1 h2 h3 h4 h5
      split at h
      · rename_i hinf; cases h; exact sl_sound ho h1 h2 h3 h4 h5 hinf z k
      · cases h
    · split at h <;> cases h
    · cases h
    · cases h
  case h_16 =>
    rename_i t x ho
    split at h
    · rename_i h1 h2; cases h; exact ld_sound ho h1 h2 z k
    · cases h
  case h_17 =>
    rename_i t x ix ok ho
    split at h
    · rename_i h1 h2 h3
      split at h
      · rename_i h4 h5
        split at h
        · rename_i zz h6
          cases hf : flat zz with
          | false => rw [hf] at h; cases h
          | true => rw [hf] at h; cases h; exact lk_sound ho h1 h2 h3 h4 h5 h6 hf z k
        · cases h
      · cases h
    · cases h
  case h_18 =>
    rename_i src dst x ho
    split at h
    · rename_i h1 h2 h3; cases h; exact convI_sound ho h1 h3 h2 z k
    · cases h; exact conv_sound ho ‹_› z k
    · cases h
  case h_26 =>
    rename_i c ho
    split at h
    case h_4 =>
      rename_i hc
      split at h
      · rename_i t x h1 h2
        split at h
        · cases h; rename_i g1 g2; exact len_sound ho hc h1 h2 g1 g2 (.inl ⟨rfl, _, rfl⟩) z k
        · cases h; rename_i g1 g2; exact len_sound ho hc h1 h2 g1 g2 (.inr (.inl ⟨rfl, rfl⟩)) z k
        · cases h; rename_i g1 g2; exact len_sound ho hc h1 h2 g1 g2 (.inr (.inr ⟨rfl, _, _, rfl⟩)) z k
        · cases h
      · cases h
    all_goals first
      | (cases h; done)
      | (split at h <;> cases h; done)
      | (repeat' (first | (cases h; done) | split at h))
      | skip
    all_goals first
      | (rw [Bool.cond_eq_ite] at h; split at h <;> cases h; done)
      | (rw [Option.map_eq_some_iff] at h; obtain ⟨_, _, h⟩ := h; cases h; done)
  all_goals first
    | (cases h; done)
    | (split at h <;> cases h; done)
    | (repeat' (first | (cases h; done) | split at h))
    | skip
  all_goals first
    | (rw [Bool.cond_eq_ite] at h; split at h <;> cases h; done)
    | (rw [Option.map_eq_some_iff] at h; obtain ⟨_, _, h⟩ := h; cases h; done)
end
end Go.Clo
