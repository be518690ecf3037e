/-
  The closed executor: a region that draws its order.
-/
import Derived.Test.YtdecggbglnbhlaaGreatDoorCloM
set_option linter.unusedSimpArgs false
set_option linter.unusedVariables false
set_option linter.unusedSectionVars false
namespace Go.Clo

theorem Stp.reserve {F : FM} {H : Heap} {nx : Nat} {w : World} (h : HR F H nx w) {nx2 : Nat} (h1 : nx ≤ nx2) : Stp F H nx w F H nx2 w := by
  refine ⟨h1, fun _ _ => rfl, rfl, rfl, rfl, Nat.le_refl _, fun _ _ _ => rfl, ?_, fun _ _ h => h, fun i b hg _ => ⟨h.low hg, hg⟩, h.reserve h1⟩
  rintro b ⟨i, k, t, hi, hg, hrk, hF, e⟩
  exact .inl ⟨i, k, t, h.low hg, hg, hrk, hF, e⟩
theorem Stp.congr {F : FM} {H : Heap} {nx : Nat} {w : World} {F' : FM} {X X2 : Heap} {nx' : Nat} {w' : World} (h : Stp F H nx w F' X nx' w') (he : ∀ q, getH X2 q = getH X q) : Stp F H nx w F' X2 nx' w' := by
  have hown : ∀ b, Own F' X2 nx' b → Own F' X nx' b := by
    rintro b ⟨i, k, t, hi, hg, hrk, hF, e⟩
    exact ⟨i, k, t, hi, by rw [← he i]; exact hg, hrk, hF, e⟩
  refine ⟨h.le, h.ext, h.os, h.tape, h.output, h.size, h.frame, fun b hb => h.own b (hown b hb), fun i hi hn => ?_, fun i b hg hrb => h.rom i b (by rw [← he i]; exact hg) hrb, h.hr.sub (fun i b hg => by rw [← he i]; exact hg)⟩
  rw [he i]; exact h.keep i hi hn

def cnt : Nat → (Nat → Bool) → Nat
  | 0, _ => 0
  | k + 1, D => cnt k D + (if D k then 0 else 1)
theorem cnt_congr {D D' : Nat → Bool} : ∀ {k : Nat}, (∀ j, j < k → D j = D' j) → cnt k D = cnt k D'
  | 0, _ => rfl
  | k + 1, h => by simp only [cnt]; rw [cnt_congr fun j hj => h j (by omega), h k (by omega)]
theorem cnt_set {D D' : Nat → Bool} {i : Nat} (hD : ∀ j, D' j = if j = i then true else D j) (hi : D i = false) : ∀ {k : Nat}, i < k → cnt k D' + 1 = cnt k D
  | 0, h => by omega
  | k + 1, h => by
    simp only [cnt]
    by_cases e : i = k
    · subst e
      have : D' i = true := by rw [hD, if_pos rfl]
      rw [this, hi, cnt_congr (D := D') (D' := D) fun j hj => by rw [hD, if_neg (by omega)]]
      simp
    · have := cnt_set hD hi (k := k) (by omega)
      have e2 : D' k = D k := by rw [hD, if_neg (fun h => e h.symm)]
      rw [e2]; omega
theorem cnt_zero {D : Nat → Bool} : ∀ {k : Nat}, cnt k D = 0 → ∀ i, i < k → D i = true
  | 0, _, i, hi => by omega
  | k + 1, h, i, hi => by
    simp only [cnt] at h
    by_cases e : i = k
    · subst e
      cases hd : D i with
      | true => rfl
      | false => rw [hd] at h; simp at h
    · exact cnt_zero (k := k) (by omega) i (by omega)
theorem cnt_all {D : Nat → Bool} (h : ∀ i, D i = false) : ∀ k, cnt k D = k
  | 0 => rfl
  | k + 1 => by simp [cnt, cnt_all h k, h k]

section
variable {P : Program} {d n : Nat} {ops : List Oper} {N : Nat} {H0 : Heap} {T0 : Tree Value} {rc : List Rec} {F0 : FM} {w0 : World} {ds : List Deferred}

theorem any_all (hok : ∀ i o, ops[i]? = some o → SlotOK ops i o) (hlen : rc.length = ops.length) (hall : AllF P d n ops N H0 (N + ops.length) T0 rc)
    (hrs : RdAll P d n ops N H0 rc) {Q : Exit → Act → World → Prop}
    (hQ : ∀ (D : Nat → Bool) a w F X l', (∀ i, i < ops.length → D i = true) → Inv n ops N H0 T0 rc F0 w0 ds D a w F X l' → Q .normal a w) :
    ∀ (fuel : Nat) (listed : Array Bool) (a : Act) (w : World) (F : FM) (X : Heap) (l' : List Rec), listed.size = ops.length → cnt ops.length (fun i => listed.getD i false) ≤ fuel → Closed ops (fun i => listed.getD i false) →
      Inv n ops N H0 T0 rc F0 w0 ds (fun i => listed.getD i false) a w F X l' → wpAny P .any ops.toArray Q fuel listed a w
  | 0, listed, a, w, F, X, l', hsz, hc, hcl, hI => by
    have hd := cnt_zero (D := fun i => listed.getD i false) (k := ops.length) (by omega)
    refine ⟨?_, hQ _ a w F X l' hd hI⟩
    cases hr : Region.ready .any ops.toArray listed with
    | nil => rfl
    | cons i rest =>
      obtain ⟨h1, h2, _⟩ := mem_ready' (ops := ops.toArray) (listed := listed) (i := i) (by rw [hr]; simp)
      have := hd i (by simpa using h1)
      have hi : i < listed.size := by simp at h1; omega
      simp [hi] at this h2
      rw [this] at h2; cases h2
  | fuel + 1, listed, a, w, F, X, l', hsz, hc, hcl, hI => by
    refine ⟨fun hr => ?_, fun i hi => ?_⟩
    · refine hQ _ a w F X l' (fun i hi => ?_) hI
      exact ready_none (ops := ops.toArray) (by simpa using hsz) (fun i o ho e he hb => (hok i o (by simpa using ho)).edge e he hb) hr i (by simpa using hi)
    · obtain ⟨h1, h2, h3⟩ := mem_ready' hi
      have hil : i < ops.length := by simpa using h1
      have his : i < listed.size := by omega
      have hDi : listed.getD i false = false := by simp [his] at h2 ⊢; exact h2
      have hdir : ∀ o, ops[i]? = some o → ∀ e ∈ o.after, Region.binds .any e = true → listed.getD e.on false = true := fun o ho => h3 o (by simpa using ho)
      have hp := fun j => closed_bit hok hcl i j hdir
      have hcl2 : ∀ i j, listed.getD i false = true → mBit (masks ops) i j = true → listed.getD j false = true := by
        intro i j hi hb
        exact closed_bit hok hcl i j (fun o ho e he hbd => hcl i o ho hi e he hbd) hb
      have hD : ∀ j, (listed.setIfInBounds i true).getD j false = if j = i then true else listed.getD j false := by
        intro j
        by_cases e : j = i
        · subst e; simp [his]
        · simp [e, Array.getElem?_setIfInBounds_ne (Ne.symm e)]
      refine any_step (D := fun i => listed.getD i false) (D' := fun j => (listed.setIfInBounds i true).getD j false) hok hlen hall hrs hI hil hDi hp hcl2 hD fun a' w' F' X' l'' hI' => ?_
      refine any_all hok hlen hall hrs hQ fuel _ a' w' F' X' l'' (by simpa using hsz) ?_ ?_ hI'
      · have := cnt_set (D := fun i => listed.getD i false) (D' := fun j => (listed.setIfInBounds i true).getD j false) hD hDi (k := ops.length) hil
        omega
      · intro q o ho hq e he hb
        dsimp only at hq ⊢
        rw [hD] at hq
        rw [hD]
        split
        · rfl
        · split at hq
          · rename_i hqi; subst hqi; exact hdir o ho e he hb
          · exact hcl q o ho hq e he hb
end

theorem valD_none {ops : List Oper} {T0 : Tree Value} {D : Nat → Bool} (h : ∀ i, D i = false) {t : Nat} : ∀ (l : List Rec), valD ops T0 D l t = (tg T0 t).getD undef
  | [] => rfl
  | r :: l => by simp only [valD, h]; simp; exact valD_none h l

theorem compSs_len {P : Program} {n : Nat} {ops : List Oper} : ∀ {suf : List Oper} {l : List S}, compSs P n ops suf = some l → l.length = suf.length
  | [], l, h => by simp [compSs] at h; subst h; rfl
  | o :: suf, l, h => by
    simp only [compSs] at h
    cases hs : compS P n ops o with
    | none => simp [hs] at h
    | some s => cases hl : compSs P n ops suf with
      | none => simp [hs, hl] at h
      | some l' => simp [hs, hl] at h; subst h; simp [compSs_len hl]

theorem compSs_dsts {P : Program} {n : Nat} {ops : List Oper} : ∀ {suf : List Oper} {l : List S}, compSs P n ops suf = some l → ∀ o ∈ suf, ∀ t, o.dst = some t → t ∈ dsts l
  | [], l, h, o, ho => by cases ho
  | o' :: suf, l, h, o, ho => by
    simp only [compSs] at h
    cases hs : compS P n ops o' with
    | none => simp [hs] at h
    | some s => cases hl : compSs P n ops suf with
      | none => simp [hs, hl] at h
      | some l' =>
        simp [hs, hl] at h; subst h
        intro t ht
        simp only [dsts, List.mem_append]
        rcases List.mem_cons.1 ho with rfl | ho
        · refine .inl ?_
          rw [(compS_inv hs).2.1, ht]; simp
        · exact .inr (compSs_dsts hl o ho t ht)
theorem valR_other {ops : List Oper} {T0 : Tree Value} {W : List Nat} (hW : ∀ o ∈ ops, ∀ t, o.dst = some t → t ∈ W) {j : Nat} (hj : j ∉ W) : ∀ {l : List Rec}, valR ops T0 l j = (tg T0 j).getD undef
  | [] => rfl
  | r :: l => by
    simp only [valR]
    rw [if_neg, valR_other hW hj]
    intro h
    cases ho : ops[l.length]? with
    | none => rw [ho] at h; cases h
    | some o => rw [ho] at h; exact hj (hW o (List.mem_of_getElem? ho) j h)
/-- A region's record stands for the region, in whatever order. -/
theorem draw_core {P : Program} {d n : Nat} {ops : List Oper} (hm : P.follows .mixedOrders = true) (hslots : slotsOk (masks ops) ops ops 0 = true) (hn : n ≤ 2 ^ d)
    {T : Tree Value} {H : Heap} {nx : Nat} {rc : List Rec} {T' : Tree Value} (hlen : rc.length = ops.length) (hall : AllF P d n ops nx H (nx + ops.length) T rc) (hw' : WF d T') (hT' : ∀ t, t < n → (tg T' t).getD undef = valR ops T rc t) (hrs' : RdAll P d n ops nx H rc) :
      ∀ (id : Nat) (F : FM) (a : Act) (w : World) (Q : Exit → Act → World → Prop), TR d F T n a.tmps → HR F H nx w →
        (∀ F' a' w', TR d F' T' n a'.tmps → Stp F H nx w F' (addB nx (fun j => !merged (masks ops) (esR rc) j) (hR H rc) (asR rc)) (nR (nx + ops.length) rc) w' → a'.defers = a.defers → Q .normal a' w') → (Code.region id ops.toArray true).wp P Q a w := by
  have hok : ∀ i o, ops[i]? = some o → SlotOK ops i o := fun i o ho => by simpa using slotsOk_inv ops 0 hslots i o ho
  intro id F a w Q ht hr hk
  refine wp_region_any hm ?_
  have hr1 : HR F H nx { w with drawn := w.drawn + 1 } := hr.drew _
  have hD0 : ∀ i, (Array.replicate ops.toArray.size false).getD i false = false := by
    intro i; simp [Array.getElem?_replicate]; split <;> rfl
  refine any_all (N := nx) (H0 := H) (T0 := T) (rc := rc) (F0 := F) (w0 := w) (ds := a.defers) hok hlen hall hrs' ?_ _ _ a _ F H [] (by simp) ?_ ?_ ?_
  · -- all is done
    intro D a' w' F' X l' hD hI
    obtain ⟨pre, hsuf⟩ := hI.suf
    have hall' : ∀ e ∈ esR (pre ++ l'), e < l'.length := by
      intro e he
      rw [← hsuf] at he
      cases Classical.em (e ∈ esR l') with
      | inl h => exact esR_lt h
      | inr h =>
        have h2 := hI.todo e he h
        have h3 := esR_lt he
        rw [hD e (by omega)] at h2; cases h2
    obtain ⟨s1, s2, s3⟩ := same_stage (H0 := H) (n0 := nx + ops.length) hall'
    rw [← hsuf] at s1 s2 s3
    refine hk F' a' w' ⟨hw', hI.size, hn, fun t htn => ?_⟩ ?_ hI.defers
    · rw [hT' t htn, ← valD_eq (D := D) (T0 := T) (ops := ops) fun j hj _ => hD j (by omega)]
      exact hI.slots t htn
    · have hst := hI.stp
      rw [← s3] at hst
      refine hst.congr fun q => ?_
      rw [getH_addB (L := ops.length) (by rw [← hlen]; exact asR_keys rc) q, hI.heap q, s1, s2]
      congr 1
      apply pick_congr
      rintro ⟨j, b⟩ hx _
      obtain ⟨pre3, r3, l3, g1, g2, _⟩ := asR_mem hx
      have hj : j < ops.length := by rw [← hlen, g1]; simp; omega
      simp [hD j hj]
  · have := cnt_all (D := fun i => (Array.replicate ops.toArray.size false).getD i false) hD0 ops.length
    rw [this]; simp
  · intro i o _ hi
    dsimp only at hi; rw [hD0] at hi; cases hi
  · refine ⟨⟨rc, by simp⟩, by simp [esR], fun e _ _ => hD0 e, ht.size, fun t htn => ?_, fun q => ?_, fun j hj _ => hr.top _ (by omega), ?_, fun j hj _ => hr.fresh _ (by omega), Nat.le_refl _, rfl⟩
    · rw [valD_none hD0]; exact ht.get t htn
    · have : pickB nx (fun j => (Array.replicate ops.toArray.size false).getD j false && !merged (masks ops) (esR []) j) q (asR rc) = none := by
        cases hp : pickB nx (fun j => (Array.replicate ops.toArray.size false).getD j false && !merged (masks ops) (esR []) j) q (asR rc) with
        | none => rfl
        | some b =>
          obtain ⟨j, _, _, hpj⟩ := pick_some hp
          rw [hD0] at hpj; cases hpj
      rw [this]; rfl
    · exact (Stp.drew hr (w.drawn + 1)).trans (Stp.reserve hr1 (nx2 := nx + ops.length) (by omega))
theorem draw_sound {β : Type} {P : Program} {d n : Nat} {ops : List Oper} {l : List S} (hm : P.follows .mixedOrders = true) (hl : compSs P n ops ops = some l) (hslots : slotsOk (masks ops) ops ops 0 = true) (hn : n ≤ 2 ^ d) {call : CallT β} (hcall : CallOK P call) {chk : ChkT β} (hchk : ChkOK P chk)
    (T : Tree Value) (H : Heap) (nx : Nat) (z : β) (k : K β) (hwT : WF d T) :
    drawC P d call chk z (masks ops) l T H nx k = z ∨ ∃ T' H' nx', drawC P d call chk z (masks ops) l T H nx k = k T' H' nx' ∧ (WF d T' ∧ Agr n (dsts l) T T') ∧
      ∀ (id : Nat) (F : FM) (a : Act) (w : World) (Q : Exit → Act → World → Prop), TR d F T n a.tmps → HR F H nx w →
        (∀ F' a' w', TR d F' T' n a'.tmps → Stp F H nx w F' H' nx' w' → a'.defers = a.defers → Q .normal a' w') → (Code.region id ops.toArray true).wp P Q a w := by
  unfold drawC
  rw [forceN_eq, compSs_len hl]
  rcases draw_run (N := nx) (H0 := H) (n0 := nx + ops.length) (T0 := T) hcall hn z (fun T H n Ms es as rs => chk (masks ops) nx as rs es Ms H (mergeK (masks ops) nx es H (fun H => k T H n) as) z) ops l [] T hl (by simp) trivial hwT (fun t _ => rfl) with h | ⟨rc, T', h1, hall, hw', hT', h5⟩
  · exact .inl h
  · have h5' : drawK P d call (masks ops) nx z (fun T H n Ms es as rs => chk (masks ops) nx as rs es Ms H (mergeK (masks ops) nx es H (fun H => k T H n) as) z) l 0 T H (nx + ops.length) [] [] [] [] = _ := h5
    rw [h5']
    rcases hchk d n ops nx H rc (mergeK (masks ops) nx (esR rc) (hR H rc) (fun H => k T' H (nR (nx + ops.length) rc)) (asR rc)) z with h | ⟨h, hrs'⟩
    · exact .inl h
    · rw [h, merge_eq]
      exact .inr ⟨T', _, _, rfl, ⟨hw', fun j hj hne => by rw [hT' j hj]; exact valR_other (compSs_dsts hl) hne⟩, draw_core hm hslots hn (by simpa using h1) hall hw' hT' hrs'⟩
end Go.Clo
