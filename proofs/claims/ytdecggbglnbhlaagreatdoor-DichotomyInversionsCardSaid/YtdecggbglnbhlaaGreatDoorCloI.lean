/-
  The closed executor: heaps with blocks beside.
-/
import Derived.Test.YtdecggbglnbhlaaGreatDoorCloH
set_option linter.unusedSimpArgs false
set_option linter.unusedVariables false
set_option linter.unusedSectionVars false
namespace Go.Clo

theorem HR.sub {F : FM} {H H' : Heap} {nx : Nat} {w : World} (hr : HR F H nx w) (hs : ∀ i b, getH H' i = some b → getH H i = some b) : HR F H' nx w :=
  ⟨fun i b hi hg => hr.blk i b hi (hs i b hg), fun i j bi bj ti tj hi hj gi gj => hr.inj i j bi bj ti tj hi hj (hs i bi gi) (hs j bj gj), hr.fresh, fun i hi => by
    cases hg : getH H' i with
    | none => rfl
    | some b => exact absurd (hs i b hg) (by rw [hr.top i hi]; simp), hr.gl.step (fun _ _ _ => rfl) (fun b ⟨i, k, t, hi, hg, hrk, hF, e⟩ => .inl ⟨i, k, t, hi, hs i k hg, hrk, hF, e⟩)⟩

/-- A step beside blocks that it does not know. -/
theorem Stp.beside {F : FM} {X Hin : Heap} {nx : Nat} {w : World} {F' : FM} {Hout : Heap} {nx' : Nat} {w' : World} (hr : HR F X nx w) (hsub : ∀ i b, i < nx → getH Hin i = some b → getH X i = some b)
    (hst : Stp F Hin nx w F' Hout nx' w') {X' : Heap}
    (hX : ∀ i, getH X' i = if i < nx ∧ getH Hin i = none ∧ (getH X i).isSome = true then getH X i else getH Hout i) :
    Stp F X nx w F' X' nx' w' := by
  have hown : ∀ b, Own F Hin nx b → Own F X nx b := by
    rintro b ⟨i, k, t, hi, hg, hrk, hF, e⟩
    exact ⟨i, k, t, hi, hsub i k hi hg, hrk, hF, e⟩
  -- a block beside
  have aside : ∀ i b, i < nx → getH Hin i = none → getH X i = some b → ∃ t, F i = some t ∧ F' i = some t ∧ t.blk < w.heap.size ∧ ¬ Own F Hin nx t.blk ∧ BR F' t b w' := by
    intro i b hi hn hg
    obtain ⟨t, hF, hb⟩ := hr.blk i b hi hg
    have hno : ¬ Own F Hin nx t.blk := by
      rintro ⟨j, k, u, hj, hgj, hrk, hFj, e⟩
      rcases hr.inj j i k b u t hj hi (hsub j k hj hgj) hg hFj hF e with this | this
      · subst this
        rw [hn] at hgj; cases hgj
      · rw [hrk] at this; cases this.1
    have hF' : F' i = some t := by rw [hst.ext i hi]; exact hF
    refine ⟨t, hF, hF', hb.lt, hno, hb.mono (fun q u hq => ?_) (hst.frame _ hb.lt hno)⟩
    rcases Nat.lt_or_ge q nx with g | g
    · rw [hst.ext q g]; exact hq
    · rw [hr.fresh q g] at hq; cases hq
  have own2 : ∀ b, Own F' X' nx' b → Own F X nx b ∨ w.heap.size ≤ b := by
    rintro b ⟨i, k, t, hi, hg, hrk, hF, rfl⟩
    rw [hX i] at hg
    split at hg
    · rename_i hc
      obtain ⟨h1, h2, _⟩ := hc
      obtain ⟨t', hF0, hF', _⟩ := aside i k h1 h2 hg
      rw [hF'] at hF; cases hF
      exact .inl ⟨i, k, t, h1, hg, hrk, hF0, rfl⟩
    · exact (hst.own _ ⟨i, k, t, hi, hg, hrk, hF, rfl⟩).imp (hown _) id
  refine ⟨hst.le, hst.ext, hst.os, hst.tape, hst.output, hst.size, fun b hb hno => hst.frame b hb (fun h => hno (hown b h)), own2, ?_, ?_, ?_⟩
  · intro i hi hn
    have hn' : getH Hin i = none := by
      cases hg : getH Hin i with
      | none => rfl
      | some b => rw [hsub i b hi hg] at hn; cases hn
    rw [hX i, if_neg (by simp [hn])]
    exact hst.keep i hi hn'
  · intro i b hg hrb
    rw [hX i] at hg
    split at hg
    · rename_i hc; exact ⟨hc.1, hg⟩
    · obtain ⟨h1, h2⟩ := hst.rom i b hg hrb
      exact ⟨h1, hsub i b h1 h2⟩
  · refine ⟨?_, ?_, hst.hr.fresh, fun i hi => by rw [hX i, if_neg (by have := hst.le; omega)]; exact hst.hr.top i hi, hr.gl.step (fun b hb hno => hst.frame b hb (fun h => hno (hown b h))) own2⟩
    · intro i b hi hg
      rw [hX i] at hg
      split at hg
      · rename_i hc
        obtain ⟨t, _, hF', _, _, hb⟩ := aside i b hc.1 hc.2.1 hg
        exact ⟨t, hF', hb⟩
      · exact hst.hr.blk i b hi hg
    · -- one beside, one of the step's
      have mix : ∀ i j bi bj ti tj, i < nx → j < nx' → getH Hin i = none → getH X i = some bi → getH Hout j = some bj → F' i = some ti → F' j = some tj → ti.blk = tj.blk → ¬ (j < nx ∧ getH Hin j = none ∧ (getH X j).isSome = true) → bi.isRom = true ∧ bj.isRom = true := by
        intro i j bi bj ti tj hi hj hn gi gj fi fj e hcj
        obtain ⟨t, hF, hF', hlt, hno, _⟩ := aside i bi hi hn gi
        rw [hF'] at fi; cases fi
        have hbr : bj.isRom = true := by
          cases hr' : bj.isRom with
          | true => rfl
          | false =>
            exfalso
            rcases hst.own tj.blk ⟨j, bj, tj, hj, gj, hr', fj, rfl⟩ with h | h
            · rw [← e] at h; exact hno h
            · omega
        refine ⟨?_, hbr⟩
        cases hri : bi.isRom with
        | true => rfl
        | false =>
          exfalso
          obtain ⟨h1, h2⟩ := hst.rom j bj gj hbr
          have fj' : F j = some tj := by rw [← hst.ext j h1]; exact fj
          rcases hr.inj i j bi bj _ tj hi h1 gi (hsub j bj h1 h2) hF fj' e with h | h
          · subst h; rw [hn] at h2; cases h2
          · rw [hri] at h; cases h.1
      intro i j bi bj ti tj hi hj gi gj fi fj e
      rw [hX i] at gi; rw [hX j] at gj
      split at gi <;> split at gj
      · rename_i hci hcj
        have fi' : F i = some ti := by rw [← hst.ext i hci.1]; exact fi
        have fj' : F j = some tj := by rw [← hst.ext j hcj.1]; exact fj
        exact hr.inj i j bi bj ti tj hci.1 hcj.1 gi gj fi' fj' e
      · rename_i hci hcj
        exact .inr (mix i j bi bj ti tj hci.1 hj hci.2.1 gi gj fi fj e hcj)
      · rename_i hci hcj
        exact .inr (mix j i bj bi tj ti hcj.1 hi hcj.2.1 gj gi fj fi e.symm hci).symm
      · exact hst.hr.inj i j bi bj ti tj hi hj gi gj fi fj e

/-- A new block under a name that was set aside. -/
theorem Stp.addAt {F0 : FM} {H0 : Heap} {N : Nat} {w0 : World} {F : FM} {X : Heap} {nx : Nat} {w : World} (hst : Stp F0 H0 N w0 F X nx w) {q : Nat} (hq : q < nx) (hN : N ≤ q) (hF : F q = none) {b : Blk} {obj : Obj} (hn : NewOf F b obj) :
    ∃ t, t.blk = w.heap.size ∧ t.base = 0 ∧ Stp F0 H0 N w0 (upd F q t) (hs X q (some b)) nx (w.alloc obj) := by
  have hr := hst.hr
  have hget : ∀ i, getH (hs X q (some b)) i = if i = q then some b else getH X i := fun i => getH_hs X q i _
  have hrb : b.isRom = false := by cases b <;> first | rfl | exact hn.elim
  have main : ∀ t : Tgt, t.blk = w.heap.size → BR (upd F q t) t b (w.alloc obj) → Stp F0 H0 N w0 (upd F q t) (hs X q (some b)) nx (w.alloc obj) := by
    intro t ht hb
    have hle := upd_le hF t
    refine ⟨hst.le, fun i hi => by rw [upd_ne F t (by omega)]; exact hst.ext i hi, hst.os, hst.tape, hst.output, Nat.le_trans hst.size (by simp), ?_, ?_, ?_, ?_, ?_⟩
    · intro k hk hno
      rw [alloc_get w obj k (Nat.lt_of_lt_of_le hk hst.size)]
      exact hst.frame k hk hno
    · rintro k ⟨i, kb, u, hi, hg, hrk, hFi, rfl⟩
      rw [hget i] at hg
      by_cases e : i = q
      · subst e; rw [upd_same] at hFi; cases hFi; exact .inr (by rw [ht]; exact hst.size)
      · rw [if_neg e] at hg; rw [upd_ne F t e] at hFi
        exact hst.own _ ⟨i, kb, u, hi, hg, hrk, hFi, rfl⟩
    · intro i hi hnone
      rw [hget i, if_neg (by omega)]
      exact hst.keep i hi hnone
    · intro i bi hg hri
      rw [hget i] at hg
      by_cases e : i = q
      · subst e; rw [if_pos rfl] at hg; cases hg; rw [hrb] at hri; cases hri
      · rw [if_neg e] at hg; exact hst.rom i bi hg hri
    · refine ⟨?_, ?_, ?_, fun i hi => by rw [hget, if_neg (by omega)]; exact hr.top i hi, hr.gl.step (fun k hk _ => alloc_get w obj k hk) (by
        rintro k ⟨i, kb, u, hi, hg, hrk, hFi, rfl⟩
        rw [hget i] at hg
        by_cases e : i = q
        · subst e; rw [upd_same] at hFi; cases hFi; exact .inr (by omega)
        · rw [if_neg e] at hg; rw [upd_ne F t e] at hFi
          exact .inl ⟨i, kb, u, hi, hg, hrk, hFi, rfl⟩)⟩
      · intro i kb hi hg
        rw [hget i] at hg
        by_cases e : i = q
        · subst e; rw [if_pos rfl] at hg; cases hg; exact ⟨t, upd_same _ _ _, hb⟩
        · rw [if_neg e] at hg
          obtain ⟨u, hFi, hbi⟩ := hr.blk i kb hi hg
          exact ⟨u, by rw [upd_ne F t e]; exact hFi, hbi.mono hle (alloc_get w obj _ hbi.lt)⟩
      · intro i j bi bj ti tj hi hj gi gj fi fj e
        rw [hget i] at gi; rw [hget j] at gj
        by_cases ei : i = q <;> by_cases ej : j = q
        · exact .inl (by rw [ei, ej])
        · exfalso
          subst ei; rw [upd_same] at fi; cases fi
          rw [if_neg ej] at gj; rw [upd_ne F t ej] at fj
          obtain ⟨u, hFj, hbj⟩ := hr.blk j bj hj gj
          rw [fj] at hFj; cases hFj
          have := hbj.lt; omega
        · exfalso
          subst ej; rw [upd_same] at fj; cases fj
          rw [if_neg ei] at gi; rw [upd_ne F t ei] at fi
          obtain ⟨u, hFi, hbi⟩ := hr.blk i bi hi gi
          rw [fi] at hFi; cases hFi
          have := hbi.lt; omega
        · rw [if_neg ei] at gi; rw [if_neg ej] at gj; rw [upd_ne F t ei] at fi; rw [upd_ne F t ej] at fj
          exact hr.inj i j bi bj ti tj hi hj gi gj fi fj e
      · intro i hi
        rw [upd_ne F t (by omega)]; exact hr.fresh i hi
  cases b with
  | cells c sl =>
    obtain ⟨rfl, c', e, rfl, hvl⟩ := hn
    refine ⟨⟨w.heap.size, 0, c.length, 0, c'.size⟩, rfl, rfl, main _ rfl ?_⟩
    refine ⟨c', e, alloc_top w _, rfl, rfl, rfl, by have := hvl.length; simp at this; simp [this], ?_⟩
    have hl := hvl.length
    simp only [List.drop_zero]
    rw [List.take_of_length_le (by omega)]
    exact hvl.mono (upd_le hF _)
  | map es k =>
    obtain ⟨rfl, rfl⟩ := hn
    exact ⟨⟨w.heap.size, 0, 0, 0, 0⟩, rfl, rfl, main _ rfl ⟨rfl, #[], alloc_top w _, .nil⟩⟩
  | rom c => exact hn.elim

/-! Blocks beside a heap. -/
def pickB (N : Nat) (p : Nat → Bool) (q : Nat) : List (Nat × Blk) → Option Blk
  | [] => none
  | (j, b) :: l => if N + j = q ∧ p j = true then some b else pickB N p q l
noncomputable def addB (N : Nat) (p : Nat → Bool) (H : Heap) : List (Nat × Blk) → Heap
  | [] => H
  | (j, b) :: l => addB N p (cond (p j) (hs H (N + j) (some b)) H) l
def Keys (L : Nat) : List (Nat × Blk) → Prop
  | [] => True
  | (j, _) :: l => j < L ∧ (∀ q ∈ l, q.1 ≠ j) ∧ Keys L l
theorem pick_none {N : Nat} {p : Nat → Bool} {j : Nat} : ∀ {l : List (Nat × Blk)}, (∀ q ∈ l, q.1 ≠ j) → pickB N p (N + j) l = none
  | [], _ => rfl
  | (j', b) :: l, h => by
    have h1 : j' ≠ j := h (j', b) (by simp)
    simp only [pickB]
    rw [if_neg (by rintro ⟨e, _⟩; exact h1 (by omega))]
    exact pick_none fun q hq => h q (by simp [hq])
theorem getH_addB {N L : Nat} {p : Nat → Bool} : ∀ {l : List (Nat × Blk)} {H : Heap}, Keys L l → ∀ q, getH (addB N p H l) q = (pickB N p q l).or (getH H q)
  | [], H, _, q => by simp [addB, pickB]
  | (j, b) :: l, H, hk, q => by
    obtain ⟨h1, h2, h3⟩ := hk
    simp only [addB, pickB]
    cases hp : p j with
    | false =>
      rw [getH_addB h3 q]
      simp
    | true =>
      rw [getH_addB h3 q]
      simp only [cond_true]
      rw [getH_hs]
      by_cases e : q = N + j
      · subst e
        rw [pick_none h2]
        simp
      · have e' : ¬ (N + j = q) := fun h => e h.symm
        simp [e, e']
theorem pick_some {N : Nat} {p : Nat → Bool} {q : Nat} {b : Blk} : ∀ {l : List (Nat × Blk)}, pickB N p q l = some b → ∃ j, (j, b) ∈ l ∧ N + j = q ∧ p j = true
  | [], h => by simp [pickB] at h
  | (j, b') :: l, h => by
    simp only [pickB] at h
    split at h
    · rename_i hc; cases h; exact ⟨j, by simp, hc.1, hc.2⟩
    · obtain ⟨j', h1, h2⟩ := pick_some h
      exact ⟨j', by simp [h1], h2⟩
theorem pick_mem {N L : Nat} {p : Nat → Bool} {j : Nat} {b : Blk} : ∀ {l : List (Nat × Blk)}, Keys L l → (j, b) ∈ l → p j = true → pickB N p (N + j) l = some b
  | (j', b') :: l, hk, hm, hp => by
    obtain ⟨_, h2, h3⟩ := hk
    simp only [pickB]
    rcases List.mem_cons.1 hm with e | hm
    · cases e; simp [hp]
    · have : j ≠ j' := h2 (j, b) hm
      rw [if_neg (by rintro ⟨e, _⟩; omega)]
      exact pick_mem h3 hm hp
theorem sees_eq {β : Type} {ms : List Nat} {N i : Nat} {es : List Nat} (f : Heap → β) : ∀ (as : List (Nat × Blk)) (H : Heap), seesK ms N es i H f as = f (addB N (fun j => mBit ms i j && !merged ms es j) H as)
  | [], H => rfl
  | (j, b) :: as, H => by
    simp only [seesK, addB]
    rcases Bool.eq_false_or_eq_true (mBit ms i j && !merged ms es j) with h | h
    · rw [h]; simp only [cond_true]; rw [hsK_eq, sees_eq f as]
    · rw [h]; simp only [cond_false]; rw [sees_eq f as H]
theorem merge_eq {β : Type} {ms : List Nat} {N : Nat} {es : List Nat} (f : Heap → β) : ∀ (as : List (Nat × Blk)) (H : Heap), mergeK ms N es H f as = f (addB N (fun j => !merged ms es j) H as)
  | [], H => rfl
  | (j, b) :: as, H => by
    simp only [mergeK, addB]
    rcases Bool.eq_false_or_eq_true (merged ms es j) with h | h
    · rw [h]; simp only [cond_true, Bool.not_true, cond_false]; rw [merge_eq f as H]
    · rw [h]; simp only [cond_false, Bool.not_false, cond_true]; rw [hsK_eq, merge_eq f as]
end Go.Clo
