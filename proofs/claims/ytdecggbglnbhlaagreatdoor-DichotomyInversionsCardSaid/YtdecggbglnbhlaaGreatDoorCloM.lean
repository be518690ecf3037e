/-
  The closed executor: a region's operations in whatever order.
-/
import Derived.Test.YtdecggbglnbhlaaGreatDoorCloL
set_option linter.unusedSimpArgs false
set_option linter.unusedVariables false
set_option linter.unusedSectionVars false
namespace Go.Clo

section
variable {P : Program} {d n : Nat} {ops : List Oper} {N : Nat} {H0 : Heap} {T0 : Tree Value} {rc : List Rec} {F0 : FM} {w0 : World} {ds : List Deferred} {D D' : Nat → Bool} {a : Act} {w : World} {F : FM} {X : Heap} {l' : List Rec}

/-- An operation that makes no block and has no effect. -/
theorem Inv.quiet {l : List Rec} {r : Rec} {pre0 : List Rec} {o : Oper} {i : Nat} (hI : Inv n ops N H0 T0 rc F0 w0 ds D a w F X l') (hok : ∀ i o, ops[i]? = some o → SlotOK ops i o) (hrc : rc = pre0 ++ r :: l) (hl : l.length = i) (ho : ops[i]? = some o)
    (hDi : D i = false) (hD : ∀ j, D' j = if j = i then true else D j) (hna : ∀ b, r.inf ≠ .a b) (hne : ∀ H nx, r.inf ≠ .e H nx) {v' : Value} (hv : VR F r.v v') :
    Inv n ops N H0 T0 rc F0 w0 ds D' (a.put o.dst v') w F X l' := by
  obtain ⟨h1, h2⟩ := hI.put (D' := D') hok hrc hl ho hDi hD (fun _ _ h => h) hv
  have nota : ∀ q ∈ asR rc, q.1 ≠ i := by
    rintro ⟨j, b⟩ hq e
    obtain ⟨pre, r', l2, g1, g2, g3⟩ := asR_mem hq
    obtain ⟨e1, _⟩ := split_uniq (hrc.symm.trans g1) (by simp at e; omega)
    rw [← e1] at g3
    exact hna b g3
  have note : ∀ e ∈ esR rc, e ≠ i := by
    intro e he hh
    obtain ⟨pre, r', l2, H, nx, g1, g2, g3⟩ := esR_mem he
    obtain ⟨e1, _⟩ := split_uniq (hrc.symm.trans g1) (by omega)
    rw [← e1] at g3
    exact hne H nx g3
  have up : ∀ j, D j = true → D' j = true := fun j h => by rw [hD]; split <;> simp [h]
  refine ⟨hI.suf, fun e he => up e (hI.done e he), fun e he hn => ?_, h1, h2, fun q => ?_, hI.free, hI.stp, fun j hj hd => ?_, hI.nx, (put_defers a _ _).trans hI.defers⟩
  · rw [hD, if_neg (note e he)]; exact hI.todo e he hn
  · rw [hI.heap q]
    congr 1
    apply pick_congr
    intro x hx _
    simp only [hD, if_neg (nota x hx)]
  · refine hI.res j hj ?_
    rw [hD] at hd
    split at hd
    · cases hd
    · exact hd

theorem merged_cons (ms : List Nat) (i : Nat) (es : List Nat) (j : Nat) : merged ms (i :: es) j = (mBit ms i j || merged ms es j) := by simp [merged]

/-- One operation, in the state where its forerunners have been carried out. -/
theorem any_step (hok : ∀ i o, ops[i]? = some o → SlotOK ops i o) (hlen : rc.length = ops.length) (hall : AllF P d n ops N H0 (N + ops.length) T0 rc)
    (hrs : RdAll P d n ops N H0 rc)
    (hI : Inv n ops N H0 T0 rc F0 w0 ds D a w F X l') {i : Nat} (hi : i < ops.length) (hDi : D i = false) (hp : ∀ j, mBit (masks ops) i j = true → D j = true) (hcl : ∀ i j, D i = true → mBit (masks ops) i j = true → D j = true) (hD : ∀ j, D' j = if j = i then true else D j)
    {K : Act → World → Prop} {Q : Exit → Act → World → Prop} (hK : ∀ a' w' F' X' l'', Inv n ops N H0 T0 rc F0 w0 ds D' a' w' F' X' l'' → K a' w') : wpOp P ops.toArray Q i K a w := by
  obtain ⟨pre0, r, l, hrc, hl⟩ := split_at (rc := rc) (i := i) (by omega)
  have hall' : AllF P d n ops N H0 (N + ops.length) T0 (r :: l) := AllF.suf (pre := pre0) (hrc ▸ hall)
  obtain ⟨⟨o, s, hf⟩, _⟩ := hall'
  have ho : ops[i]? = some o := by rw [← hl]; exact hf.ho
  obtain ⟨hOR, hGR⟩ := hI.or (P := P) (d := d) hok hrc hl hlen hf hDi hp hcl
  unfold wpOp
  have ho' : ops.toArray[i]? = some o := by simpa using ho
  simp only [ho']
  have hw := hf.what
  cases hinf : r.inf with
  | u =>
    rw [hinf] at hw
    obtain ⟨hv, hno⟩ := hw
    rw [if_neg (by simp [hno F a hGR])]
    exact hK _ _ F X l' (hI.quiet hok hrc hl ho hDi hD (by simp [hinf]) (by simp [hinf]) (by rw [hv]; exact VR.undef F))
  | p =>
    rw [hinf] at hw
    obtain ⟨hyes, hpv⟩ := hw
    rw [if_pos (hyes F a hGR)]
    obtain ⟨v', hrun, hv⟩ := hpv F a w hOR
    exact .inl (wp_of_value hrun (hK _ _ F X l' (hI.quiet hok hrc hl ho hDi hD (by simp [hinf]) (by simp [hinf]) hv)))
  | r ir =>
    rw [hinf] at hw
    obtain ⟨hyes, hsi⟩ := hw
    rw [if_pos (hyes F a hGR)]
    obtain ⟨_, _, _, hci⟩ := compS_inv hf.hs
    rw [hsi] at hci
    obtain ⟨pre, hsuf⟩ := hI.suf
    have hmem : (⟨i, ir, r.T, r.v⟩ : Rd) ∈ rsR rc := by
      rw [hrc]
      clear hI hall hrs hsuf hf hOR hGR hK hrc
      induction pre0 with
      | nil => simp [rsR, hinf, hl]
      | cons x pre0 ih =>
        simp only [List.cons_append, rsR]
        split
        · exact List.mem_cons_of_mem _ ih
        · exact ih
    have hsame := hrs _ hmem pre l' hsuf (fun e he hn => by
      cases hb : mBit (masks ops) i e with
      | false => rfl
      | true => have := hp e hb; rw [hI.todo e he hn] at this; cases this) (fun e he => by
      cases hb : mBit (masks ops) e i with
      | false => rfl
      | true => have := hcl e i (hI.done e he) hb; rw [hDi] at this; cases this)
    have hrv := hsame (nR (N + ops.length) l') o hci
    dsimp only at hrv
    have hsub := hI.sees hlen hp (Nat.le_refl _) (by rw [← hlen]; exact asR_keys rc) (fun q hq => hq)
    have hHB : HB F (addB N (fun j => mBit (masks ops) i j && !merged (masks ops) (esR l') j) (hR H0 l') (asR rc)) (nR (N + ops.length) l') w :=
      ⟨fun q b hq hg => hI.stp.hr.blk q b hq (hsub q b hg), hI.stp.hr.fresh⟩
    obtain ⟨v', hrun, hv⟩ := hrv F a w hOR hHB
    exact .inl (wp_of_value hrun (hK _ _ F X l' (hI.quiet hok hrc hl ho hDi hD (by simp [hinf]) (by simp [hinf]) hv)))
  | a b =>
    rw [hinf] at hw
    obtain ⟨hyes, y, hav, hval⟩ := hw
    rw [if_pos (hyes F a hGR)]
    obtain ⟨obj, hrun, hnew⟩ := hav F a w hOR
    have hFq : F (N + i) = none := hI.res i hi hDi
    have hqn : N + i < nR (N + ops.length) l' := by have := hI.nx; omega
    obtain ⟨t, e1, e2, hst⟩ := hI.stp.addAt hqn (by omega) hFq hnew
    have hle := upd_le hFq t
    have hv : VR (upd F (N + i) t) r.v (y.real w.heap.size) := by
      rw [hval, hl, ← e1]; exact Yld.vr (upd_same F (N + i) t) e2 y
    obtain ⟨h1, h2⟩ := hI.put (D' := D') hok hrc hl ho hDi hD hle hv
    have hmem : (i, b) ∈ asR rc := by rw [hrc, ← hl]; exact asR_here hinf
    have hnm : merged (masks ops) (esR l') i = false := by
      cases hm : merged (masks ops) (esR l') i with
      | false => rfl
      | true =>
        unfold merged at hm
        rw [List.any_eq_true] at hm
        obtain ⟨e, he, hb⟩ := hm
        have := hcl e i (hI.done e he) hb
        rw [hDi] at this; cases this
    have hkr : Keys ops.length (asR rc) := by rw [← hlen]; exact asR_keys rc
    have note : ∀ e ∈ esR rc, e ≠ i := by
      intro e he hh
      obtain ⟨pre, r', l2, H, nx, g1, g2, g3⟩ := esR_mem he
      obtain ⟨e1, _⟩ := split_uniq (hrc.symm.trans g1) (by omega)
      rw [← e1, hinf] at g3
      cases g3
    refine .inl (wp_of_value hrun (hK _ _ (upd F (N + i) t) (hs X (N + i) (some b)) l' ?_))
    refine ⟨hI.suf, fun e he => by rw [hD]; split <;> simp [hI.done e he], fun e he hn => by rw [hD, if_neg (note e he)]; exact hI.todo e he hn, h1, h2, fun q => ?_, hI.free, hst, fun j hj hd => ?_, hI.nx, (put_defers a _ _).trans hI.defers⟩
    · rw [getH_hs]
      by_cases e : q = N + i
      · subst e
        rw [if_pos rfl, pick_mem hkr hmem (by rw [hD, if_pos rfl, hnm]; rfl)]
        rfl
      · rw [if_neg e, hI.heap q]
        congr 1
        apply pick_congr
        intro x _ hx
        have : x.1 ≠ i := fun h => e (by omega)
        simp only [hD, if_neg this]
    · rw [hD] at hd
      split at hd
      · cases hd
      · rename_i hji
        rw [upd_ne F t (by omega)]
        exact hI.res j hj hd
  | e H' nx' =>
    rw [hinf] at hw
    obtain ⟨hyes, hev, hchain⟩ := hw
    rw [if_pos (hyes F a hGR)]
    obtain ⟨pre, hsuf⟩ := hI.suf
    -- the stage is the one before this operation
    have hst0 : esR l' = esR l ∧ hR H0 l' = hR H0 l ∧ nR (N + ops.length) l' = nR (N + ops.length) l := by
      have in1 : ∀ e ∈ esR l, e ∈ esR l' := by
        intro e he
        have hrce : e ∈ esR rc := by rw [hrc]; exact esR_up (pre := pre0) (by simp only [esR, hinf]; exact List.mem_cons_of_mem _ he)
        cases Classical.em (e ∈ esR l') with
        | inl h => exact h
        | inr h =>
          have h1 := hI.todo e hrce h
          rw [hl] at hchain
          have h2 := hp e (hchain e he)
          rw [h1] at h2; cases h2
      have in2 : ∀ e ∈ esR l', e < l.length := by
        intro e he
        have hDe := hI.done e he
        rcases Nat.lt_trichotomy e l.length with h | h | h
        · exact h
        · rw [h, hl, hDi] at hDe; cases hDe
        · exfalso
          have hrce : e ∈ esR rc := by rw [hsuf]; exact esR_up he
          obtain ⟨pre2, r2, l2, H2, nx2, g1, g2, g3⟩ := esR_mem hrce
          have hall2 : AllF P d n ops N H0 (N + ops.length) T0 (r2 :: l2) := AllF.suf (pre := pre2) (g1 ▸ hall)
          obtain ⟨⟨o2, s2, hf2⟩, _⟩ := hall2
          have hw2 := hf2.what
          rw [g3] at hw2
          have hmi : i ∈ esR l2 := by
            have h1 : i ∈ esR (pre2 ++ r2 :: l2) := by rw [← g1, hrc]; exact esR_up (pre := pre0) (by simp only [esR, hinf, hl]; simp)
            have h2 : i ∈ esR (r2 :: l2) := esR_low h1 (by simp; omega)
            simp only [esR, g3] at h2
            rcases List.mem_cons.1 h2 with h2 | h2
            · omega
            · exact h2
          have hb := hw2.2.2 i hmi
          rw [g2] at hb
          have := hcl e i hDe hb
          rw [hDi] at this; cases this
      -- both are ends of the record
      have cmp : (∃ mid, l' = mid ++ l) ∨ (∃ mid, l = mid ++ l') := by
        have hrc2 : pre ++ l' = (pre0 ++ [r]) ++ l := by rw [← hsuf, hrc]; simp
        rcases List.append_eq_append_iff.1 hrc2 with ⟨m, h1, h2⟩ | ⟨m, h1, h2⟩
        · exact .inl ⟨m, h2⟩
        · exact .inr ⟨m, h2⟩
      rcases cmp with ⟨mid, rfl⟩ | ⟨mid, hm⟩
      · exact same_stage in2
      · have h3 : ∀ e ∈ esR (mid ++ l'), e < l'.length := by
          intro e he
          rw [← hm] at he
          exact esR_lt (in1 e he)
        obtain ⟨g1, g2, g3⟩ := same_stage (H0 := H0) (n0 := N + ops.length) h3
        rw [← hm] at g1 g2 g3
        exact ⟨g1.symm, g2.symm, g3.symm⟩
    obtain ⟨s1, s2, s3⟩ := hst0
    rw [hl] at hev hchain
    have hkr : Keys ops.length (asR rc) := by rw [← hlen]; exact asR_keys rc
    have hkl : Keys i (asR l) := by rw [← hl]; exact asR_keys l
    have hasl : ∀ q ∈ asR l, q ∈ asR rc := by
      intro q hq
      rw [hrc, show pre0 ++ r :: l = (pre0 ++ [r]) ++ l by simp]
      exact asR_up hq
    have hsub0 := hI.sees hlen hp (L := i) (by omega) hkl hasl
    rw [s1, s2] at hsub0
    have hHR : HR F (addB N (fun j => mBit (masks ops) i j && !merged (masks ops) (esR l) j) (hR H0 l) (asR l)) (nR (N + ops.length) l) w := by
      rw [← s3]; exact hI.stp.hr.sub (fun q b hg => hsub0 q b hg)
    refine .inl (hev F a w K Q hOR hHR fun v' F' w' hv hst => ?_)
    have hle := hst.fle hHR
    obtain ⟨h1, h2⟩ := hI.put (D' := D') hok hrc hl ho hDi hD hle hv
    have hes : esR (r :: l) = i :: esR l := by simp only [esR, hinf, hl]
    have hhR : hR H0 (r :: l) = H' := by simp only [hR, hinf]
    have hnR : nR (N + ops.length) (r :: l) = nx' := by simp only [nR, hinf]
    have nota : ∀ q ∈ asR rc, q.1 ≠ i := by
      rintro ⟨j, b⟩ hq e
      obtain ⟨pre3, r', l2, g1, g2, g3⟩ := asR_mem hq
      obtain ⟨e1, _⟩ := split_uniq (hrc.symm.trans g1) (by simp at e; omega)
      rw [← e1, hinf] at g3
      cases g3
    have hnx0 : N + ops.length ≤ nR (N + ops.length) l := by rw [← s3]; exact hI.nx
    -- a block beside is not seen by this operation
    have unseen : ∀ j, j < ops.length → mBit (masks ops) i j = false → merged (masks ops) (esR l) j = false →
        getH (addB N (fun j => mBit (masks ops) i j && !merged (masks ops) (esR l) j) (hR H0 l) (asR l)) (N + j) = none := by
      intro j hj hb hm
      rw [getH_addB (L := i) hkl _]
      have e1 : getH (hR H0 l) (N + j) = none := by rw [← s2]; exact hI.free j hj (by rw [s1]; exact hm)
      rw [e1]
      cases hpk : pickB N (fun j => mBit (masks ops) i j && !merged (masks ops) (esR l) j) (N + j) (asR l) with
      | none => rfl
      | some b =>
        obtain ⟨j', _, h3, h4⟩ := pick_some hpk
        have : j' = j := by omega
        subst this
        rw [hb] at h4; cases h4
    have hX' : ∀ q, getH (addB N (fun j => D' j && !merged (masks ops) (esR (r :: l)) j) H' (asR rc)) q = (pickB N (fun j => D' j && !merged (masks ops) (esR (r :: l)) j) q (asR rc)).or (getH H' q) :=
      fun q => getH_addB (L := ops.length) hkr q
    have hbes := Stp.beside (X' := addB N (fun j => D' j && !merged (masks ops) (esR (r :: l)) j) H' (asR rc)) (s3 ▸ hI.stp.hr) (fun q b hq hg => hsub0 q b hg) hst (by
      intro q
      rw [hX' q]
      cases hpk : pickB N (fun j => D' j && !merged (masks ops) (esR (r :: l)) j) q (asR rc) with
      | some b =>
        obtain ⟨j, hm, rfl, hpj⟩ := pick_some hpk
        rw [Bool.and_eq_true, hes, merged_cons] at hpj
        have hji : j ≠ i := nota _ hm
        have hj : j < ops.length := by
          obtain ⟨pre3, r3, l3, g1, g2, _⟩ := asR_mem hm
          rw [← hlen, g1]; simp; omega
        have hDj : D j = true := by have := hpj.1; rw [hD, if_neg hji] at this; exact this
        have hnb : mBit (masks ops) i j = false ∧ merged (masks ops) (esR l) j = false := by
          have := hpj.2; simp at this; exact this
        have hXq : getH X (N + j) = some b := by
          rw [hI.heap _, pick_mem hkr hm (by rw [hDj, s1, hnb.2]; rfl)]; rfl
        rw [if_pos ⟨by omega, unseen j hj hnb.1 hnb.2, by rw [hXq]; rfl⟩, hXq]
        rfl
      | none =>
        rw [if_neg]
        · rfl
        · rintro ⟨g1, g2, g3⟩
          rw [hI.heap q] at g3
          cases hpd : pickB N (fun j => D j && !merged (masks ops) (esR l') j) q (asR rc) with
          | some b =>
            obtain ⟨j, hm, rfl, hpj⟩ := pick_some hpd
            rw [Bool.and_eq_true, s1] at hpj
            have hji : j ≠ i := nota _ hm
            have hbit : mBit (masks ops) i j = true := by
              cases hb : mBit (masks ops) i j with
              | true => rfl
              | false =>
                exfalso
                have hmg : merged (masks ops) (esR l) j = false := by simpa using hpj.2
                rw [pick_mem hkr hm (by rw [hD, if_neg hji, hpj.1, hes, merged_cons, hb, hmg]; rfl)] at hpk
                cases hpk
            have hji2 := mBit_lt hok _ _ hbit
            have hml : (j, b) ∈ asR l := by
              refine asR_low (pre := pre0 ++ [r]) ?_ (by omega)
              rw [show (pre0 ++ [r]) ++ l = pre0 ++ r :: l by simp, ← hrc]; exact hm
            rw [getH_addB (L := i) hkl _, pick_mem hkl hml (by rw [hbit]; exact hpj.2)] at g2
            cases g2
          | none =>
            rw [hpd] at g3
            rw [getH_addB (L := i) hkl _] at g2
            rw [s2] at g3
            cases hg : getH (hR H0 l) q with
            | none => rw [hg] at g3; simp at g3
            | some b =>
              rw [hg] at g2
              cases hpp : pickB N (fun j => mBit (masks ops) i j && !merged (masks ops) (esR l) j) q (asR l) <;> rw [hpp] at g2 <;> cases g2)
    refine hK _ _ F' _ (r :: l) ⟨⟨pre0, hrc⟩, ?_, ?_, h1, h2, fun q => by rw [hX' q, hhR], ?_, ?_, ?_, ?_, (put_defers a _ _).trans hI.defers⟩
    · intro e he
      rw [hes] at he
      rcases List.mem_cons.1 he with rfl | he
      · rw [hD, if_pos rfl]
      · rw [hD]; split
        · rfl
        · exact hI.done e (by rw [s1]; exact he)
    · intro e he hn
      rw [hes] at hn
      have hne : e ≠ i := fun h => hn (by simp [h])
      rw [hD, if_neg hne]
      exact hI.todo e he (by rw [s1]; exact fun h => hn (List.mem_cons_of_mem _ h))
    · intro j hj hm
      rw [hes, merged_cons] at hm
      rw [Bool.or_eq_false_iff] at hm
      rw [hhR]
      exact hst.keep _ (by omega) (unseen j hj hm.1 hm.2)
    · rw [hnR]
      exact hI.stp.trans (s3 ▸ hbes)
    · intro j hj hd
      rw [hD] at hd
      split at hd
      · cases hd
      · rw [hst.ext _ (by omega)]; exact hI.res j hj hd
    · rw [hnR]; exact Nat.le_trans hnx0 hst.le
end
end Go.Clo
