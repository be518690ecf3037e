/-
  The closed executor: steps of the heap.
-/
import Derived.Test.YtdecggbglnbhlaaGreatDoorClo9
set_option linter.unusedSimpArgs false
set_option linter.unusedVariables false
set_option linter.unusedSectionVars false
namespace Go.Clo

def upd (F : FM) (q : Nat) (t : Tgt) : FM := fun i => if i = q then some t else F i
theorem upd_le {F : FM} {q : Nat} (h : F q = none) (t : Tgt) : F.le (upd F q t) := by
  intro i u hi
  unfold upd
  by_cases e : i = q
  · subst e; rw [h] at hi; cases hi
  · simp [e, hi]
theorem upd_same (F : FM) (q : Nat) (t : Tgt) : upd F q t q = some t := by simp [upd]
theorem upd_ne (F : FM) {q i : Nat} (t : Tgt) (h : i ≠ q) : upd F q t i = F i := by simp [upd, h]

/-- One block of the heap is written. -/
theorem Stp.update {F : FM} {H : Heap} {nx : Nat} {w w' : World} (hr : HR F H nx w) {b : Nat} {old new : Blk} {t : Tgt} (hb : b < nx) (hg : getH H b = some old) (hro : old.isRom = false) (hrn : new.isRom = false) (hF : F b = some t)
    (h1 : w'.os = w.os) (h2 : w'.tape = w.tape) (h3 : w'.output = w.output) (h4 : w'.heap.size = w.heap.size) (h5 : ∀ k, k ≠ t.blk → w'.heap[k]? = w.heap[k]?) (hn : BR F t new w') :
    Stp F H nx w F (hs H b (some new)) nx w' := by
  have hget : ∀ i, getH (hs H b (some new)) i = if i = b then some new else getH H i := fun i => getH_hs H b i _
  have conv : ∀ i bi, getH (hs H b (some new)) i = some bi → ∃ bi', getH H i = some bi' ∧ bi'.isRom = bi.isRom := by
    intro i bi hgi
    rw [hget i] at hgi
    by_cases e : i = b
    · subst e; rw [if_pos rfl] at hgi; cases hgi; exact ⟨old, hg, by rw [hro, hrn]⟩
    · rw [if_neg e] at hgi; exact ⟨bi, hgi, rfl⟩
  refine ⟨Nat.le_refl _, fun _ _ => rfl, h1, h2, h3, by omega, ?_, ?_, ?_, ?_, ?_⟩
  · intro k hk hno
    refine h5 k (fun e => hno ⟨b, old, t, hb, hg, hro, hF, e.symm⟩)
  · rintro k ⟨i, kb, ti, hi, hgi, hrk, hFi, rfl⟩
    obtain ⟨bi', g1, g2⟩ := conv i kb hgi
    exact .inl ⟨i, bi', ti, hi, g1, g2.trans hrk, hFi, rfl⟩
  · intro i hi hnone
    rw [hget i]
    by_cases e : i = b
    · subst e; rw [hg] at hnone; cases hnone
    · rw [if_neg e]; exact hnone
  · intro i bi hgi hrb
    rw [hget i] at hgi
    by_cases e : i = b
    · subst e; rw [if_pos rfl] at hgi; cases hgi; rw [hrn] at hrb; cases hrb
    · rw [if_neg e] at hgi; exact ⟨hr.low hgi, hgi⟩
  · refine ⟨?_, ?_, hr.fresh, fun i hi => by rw [hget, if_neg (by omega)]; exact hr.top i hi, hr.gl.step (fun k hk hno => h5 k (fun e => hno ⟨b, old, t, hb, hg, hro, hF, e.symm⟩)) (by
      rintro k ⟨i, kb, ti, hi, hgi, hrk, hFi, rfl⟩
      obtain ⟨bi', g1, g2⟩ := conv i kb hgi
      exact .inl ⟨i, bi', ti, hi, g1, g2.trans hrk, hFi, rfl⟩)⟩
    · intro i kb hi hgi
      rw [hget i] at hgi
      by_cases e : i = b
      · subst e; rw [if_pos rfl] at hgi; cases hgi; exact ⟨t, hF, hn⟩
      · rw [if_neg e] at hgi
        obtain ⟨ti, hFi, hbr⟩ := hr.blk i kb hi hgi
        refine ⟨ti, hFi, hbr.mono (fun _ _ h => h) (h5 _ (fun e2 => ?_))⟩
        rcases hr.inj i b kb old ti t hi hb hgi hg hFi hF e2 with h | h
        · exact e h
        · rw [hro] at h; cases h.2
    · intro i j bi bj ti tj hi hj hgi hgj hFi hFj e
      obtain ⟨bi', hgi', ri⟩ := conv i bi hgi
      obtain ⟨bj', hgj', rj⟩ := conv j bj hgj
      rw [← ri, ← rj]
      exact hr.inj i j bi' bj' ti tj hi hj hgi' hgj' hFi hFj e

/-- A name is forgotten. -/
theorem Stp.kill {F : FM} {H : Heap} {nx : Nat} {w : World} (hr : HR F H nx w) {b : Nat} (hb : b < nx) : Stp F H nx w F (hs H b none) nx w := by
  have hget : ∀ i, getH (hs H b none) i = if i = b then none else getH H i := fun i => getH_hs H b i _
  have back : ∀ i bi, getH (hs H b none) i = some bi → getH H i = some bi := by
    intro i bi hgi
    rw [hget i] at hgi
    by_cases e : i = b
    · simp [e] at hgi
    · rwa [if_neg e] at hgi
  refine ⟨Nat.le_refl _, fun _ _ => rfl, rfl, rfl, rfl, Nat.le_refl _, fun _ _ _ => rfl, ?_, ?_, fun i bi hgi _ => ⟨hr.low (back i bi hgi), back i bi hgi⟩, ?_⟩
  · rintro k ⟨i, kb, ti, hi, hgi, hrk, hFi, rfl⟩
    exact .inl ⟨i, kb, ti, hi, back i kb hgi, hrk, hFi, rfl⟩
  · intro i hi hnone
    rw [hget i]
    by_cases e : i = b <;> simp [e, hnone]
  · refine ⟨fun i kb hi hgi => hr.blk i kb hi (back i kb hgi), ?_, hr.fresh, fun i hi => by rw [hget, if_neg (by omega)]; exact hr.top i hi, hr.gl.step (fun _ _ _ => rfl) (by
      rintro k ⟨i, kb, ti, hi, hgi, hrk, hFi, rfl⟩
      exact .inl ⟨i, kb, ti, hi, back i kb hgi, hrk, hFi, rfl⟩)⟩
    intro i j bi bj ti tj hi hj hgi hgj hFi hFj e
    exact hr.inj i j bi bj ti tj hi hj (back i bi hgi) (back j bj hgj) hFi hFj e

/-- A new name, for a block that no name stands for. -/
theorem HR.name {F : FM} {H : Heap} {nx : Nat} {w w' : World} (hr : HR F H nx w) {new : Blk} (hrn : new.isRom = false) {t : Tgt}
    (h5 : ∀ k, k ≠ t.blk → k < w.heap.size → w'.heap[k]? = w.heap[k]?) (hno : ¬ Named F H nx t.blk) (hn : BR (upd F nx t) t new w') (hgl : ∀ x ∈ globs, x.1 ≠ t.blk) :
    HR (upd F nx t) (hs H nx (some new)) (nx + 1) w' ∧ (∀ i, i < nx → getH H i = none → getH (hs H nx (some new)) i = none) ∧
      (∀ k, Own (upd F nx t) (hs H nx (some new)) (nx + 1) k → Own F H nx k ∨ k = t.blk) ∧
      (∀ i b, getH (hs H nx (some new)) i = some b → b.isRom = true → i < nx ∧ getH H i = some b) := by
  have hfresh : F nx = none := hr.fresh nx (Nat.le_refl _)
  have hle := upd_le hfresh t
  have hget : ∀ i, getH (hs H nx (some new)) i = if i = nx then some new else getH H i := fun i => getH_hs H nx i _
  have hback : ∀ i, i < nx + 1 → i ≠ nx → i < nx := fun i h e => by omega
  have own3 : ∀ k, Own (upd F nx t) (hs H nx (some new)) (nx + 1) k → Own F H nx k ∨ k = t.blk := by
    rintro k ⟨i, kb, ti, hi, hgi, hrk, hFi, rfl⟩
    rw [hget i] at hgi
    by_cases e : i = nx
    · subst e; rw [upd_same] at hFi; cases hFi; exact .inr rfl
    · rw [if_neg e] at hgi; rw [upd_ne F t e] at hFi
      exact .inl ⟨i, kb, ti, hback i hi e, hgi, hrk, hFi, rfl⟩
  refine ⟨⟨?_, ?_, ?_, fun i hi => by rw [hget, if_neg (by omega)]; exact hr.top i (by omega), ⟨hr.gl.1.step fun x hx => h5 _ (hgl x hx) (hr.gl.1 x hx).1, fun x hx ho => (own3 _ ho).elim (hr.gl.2 x hx) (hgl x hx)⟩⟩, ?_, own3, ?_⟩
  · intro i kb hi hgi
    rw [hget i] at hgi
    by_cases e : i = nx
    · subst e; rw [if_pos rfl] at hgi; cases hgi; exact ⟨t, upd_same _ _ _, hn⟩
    · rw [if_neg e] at hgi
      obtain ⟨ti, hFi, hbr⟩ := hr.blk i kb (hback i hi e) hgi
      refine ⟨ti, by rw [upd_ne F t e]; exact hFi, hbr.mono hle (h5 _ (fun e2 => hno ⟨i, kb, ti, hback i hi e, hgi, hFi, e2⟩) hbr.lt)⟩
  · intro i j bi bj ti tj hi hj hgi hgj hFi hFj e
    rw [hget i] at hgi; rw [hget j] at hgj
    by_cases ei : i = nx <;> by_cases ej : j = nx
    · exact .inl (by rw [ei, ej])
    · exfalso
      subst ei
      rw [upd_same] at hFi; cases hFi
      rw [if_neg ej] at hgj; rw [upd_ne F t ej] at hFj
      exact hno ⟨j, bj, tj, hback j hj ej, hgj, hFj, e.symm⟩
    · exfalso
      subst ej
      rw [upd_same] at hFj; cases hFj
      rw [if_neg ei] at hgi; rw [upd_ne F t ei] at hFi
      exact hno ⟨i, bi, ti, hback i hi ei, hgi, hFi, e⟩
    · rw [if_neg ei] at hgi; rw [if_neg ej] at hgj; rw [upd_ne F t ei] at hFi; rw [upd_ne F t ej] at hFj
      exact hr.inj i j bi bj ti tj (hback i hi ei) (hback j hj ej) hgi hgj hFi hFj e
  · intro i hi
    rw [upd_ne F t (by omega)]; exact hr.fresh i (by omega)
  · intro i hi hnone
    rw [hget i, if_neg (by omega)]; exact hnone
  · intro i bi hgi hrb
    rw [hget i] at hgi
    by_cases e : i = nx
    · subst e; rw [if_pos rfl] at hgi; cases hgi; rw [hrn] at hrb; cases hrb
    · rw [if_neg e] at hgi; exact ⟨hr.low hgi, hgi⟩

theorem Stp.name {F : FM} {H : Heap} {nx : Nat} {w w' : World} (hr : HR F H nx w) {new : Blk} (hrn : new.isRom = false) {t : Tgt}
    (h1 : w'.os = w.os) (h2 : w'.tape = w.tape) (h3 : w'.output = w.output) (h4 : w.heap.size ≤ w'.heap.size) (h5 : ∀ k, k < w.heap.size → w'.heap[k]? = w.heap[k]?)
    (hn : BR (upd F nx t) t new w') (hfr : w.heap.size ≤ t.blk) :
    Stp F H nx w (upd F nx t) (hs H nx (some new)) (nx + 1) w' := by
  have hno : ¬ Named F H nx t.blk := by
    rintro ⟨i, kb, u, hi, hg, hF, e⟩
    obtain ⟨u', hF', hbr⟩ := hr.blk i kb hi hg
    rw [hF] at hF'; cases hF'
    have := hbr.lt
    omega
  obtain ⟨g1, g2, g3, g4⟩ := hr.name hrn (fun k _ hk => h5 k hk) hno hn (fun x hx e => by have := (hr.gl.1 x hx).1; omega)
  exact ⟨by omega, fun i hi => upd_ne F t (by omega), h1, h2, h3, h4, fun k hk _ => h5 k hk, fun k hk => (g3 k hk).imp id (fun e => by omega), g2, g4, g1⟩

/-- A name takes over another name's block. -/
theorem Stp.rename {F : FM} {H : Heap} {nx : Nat} {w w' : World} (hr : HR F H nx w) {b : Nat} {old new : Blk} {t t' : Tgt} (hg : getH H b = some old) (hro : old.isRom = false) (hrn : new.isRom = false) (hF : F b = some t) (ht : t'.blk = t.blk)
    (h1 : w'.os = w.os) (h2 : w'.tape = w.tape) (h3 : w'.output = w.output) (h4 : w.heap.size ≤ w'.heap.size) (h5 : ∀ k, k ≠ t.blk → k < w.heap.size → w'.heap[k]? = w.heap[k]?)
    (hn : BR (upd F nx t') t' new w') :
    Stp F H nx w (upd F nx t') (hs (hs H b none) nx (some new)) (nx + 1) w' := by
  have hb : b < nx := hr.hb.lt hF
  have hk := Stp.kill hr hb
  have hno : ¬ Named F (hs H b none) nx t'.blk := by
    rintro ⟨i, kb, u, hi, hgi, hFi, e⟩
    rw [getH_hs] at hgi
    by_cases ei : i = b
    · simp [ei] at hgi
    · rw [if_neg ei] at hgi
      rcases hr.inj i b kb old u t hi hb hgi hg hFi hF (by omega) with h | h
      · exact ei h
      · rw [hro] at h; cases h.2
  obtain ⟨g1, g2, g3, g4⟩ := hk.hr.name hrn (fun k hk hk2 => h5 k (by omega) hk2) hno hn (fun x hx e => hr.gl.2 x hx ⟨b, old, t, hb, hg, hro, hF, by omega⟩)
  refine ⟨by omega, fun i hi => upd_ne F t' (by omega), h1, h2, h3, h4, ?_, ?_, ?_, fun i bi hgi hrb => hk.rom i bi (g4 i bi hgi hrb).2 hrb, g1⟩
  · intro k hk hno
    exact h5 k (fun e => hno ⟨b, old, t, hb, hg, hro, hF, e.symm⟩) hk
  · intro k hk2
    rcases g3 k hk2 with h | h
    · exact hk.own k h
    · exact .inl ⟨b, old, t, hb, hg, hro, hF, by omega⟩
  · intro i hi hnone
    exact g2 i hi (hk.keep i hi hnone)

theorem alloc_get (w : World) (obj : Obj) (k : Nat) (h : k < w.heap.size) : (w.alloc obj).heap[k]? = w.heap[k]? := RowKit.Below.heap_alloc w obj k h
theorem alloc_top (w : World) (obj : Obj) : (w.alloc obj).heap[w.heap.size]? = some obj := by
  show (w.heap.push obj)[w.heap.size]? = some obj
  simp
/-- A block that the call makes. -/
theorem Stp.new {F : FM} {H : Heap} {nx : Nat} {w : World} (hr : HR F H nx w) {b : Blk} {obj : Obj} (hn : NewOf F b obj) :
    ∃ t, t.blk = w.heap.size ∧ t.base = 0 ∧ Stp F H nx w (upd F nx t) (hs H nx (some b)) (nx + 1) (w.alloc obj) := by
  have hfresh : F nx = none := hr.fresh nx (Nat.le_refl _)
  cases b with
  | cells c sl =>
    obtain ⟨rfl, c', e, rfl, hvl⟩ := hn
    refine ⟨⟨w.heap.size, 0, c.length, 0, c'.size⟩, rfl, rfl, Stp.name hr rfl rfl rfl rfl (by simp) (fun k hk => alloc_get w _ k hk) ?_ (Nat.le_refl _)⟩
    refine ⟨c', e, alloc_top w _, rfl, rfl, rfl, by have := hvl.length; simp at this; simp [this], ?_⟩
    have hl := hvl.length
    simp only [List.drop_zero]
    rw [List.take_of_length_le (by omega)]
    exact hvl.mono (upd_le hfresh _)
  | map es k =>
    obtain ⟨rfl, rfl⟩ := hn
    refine ⟨⟨w.heap.size, 0, 0, 0, 0⟩, rfl, rfl, Stp.name hr rfl rfl rfl rfl (by simp) (fun k hk => alloc_get w _ k hk) ?_ (Nat.le_refl _)⟩
    exact ⟨rfl, #[], alloc_top w _, .nil⟩
  | rom c => exact hn.elim
theorem Yld.vr {F : FM} {q : Nat} {t : Tgt} (h : F q = some t) (hb : t.base = 0) (y : Yld) : VR F (y.val q) (y.real t.blk) := by
  cases y with
  | ptr => have := VR.ptr (o := 0) h; rw [hb] at this; exact this
  | slice l c => have := VR.slice (o := 0) (n := l) (c := c) (c' := c) h (.inl rfl); rw [hb] at this; exact this
  | map => exact VR.map h

theorem splice_eq {α : Type} (L vs : List α) (base o n : Nat) (h : o + vs.length ≤ n) (h2 : base + n ≤ L.length) :
    ((L.take (base + o) ++ vs ++ L.drop (base + o + vs.length)).drop base).take n = ((L.drop base).take n).take o ++ vs ++ ((L.drop base).take n).drop (o + vs.length) := by
  apply List.ext_getElem?
  intro j
  have e1 : min (base + o) L.length = base + o := by omega
  have e2 : min o (min n (L.length - base)) = o := by omega
  simp only [List.getElem?_take, List.getElem?_drop, List.getElem?_append, List.length_append, List.length_take, List.length_drop, e1, e2]
  by_cases hj : j < n
  · by_cases h3 : j < o
    · have a1 : base + j < base + o + vs.length := by omega
      have a2 : base + j < base + o := by omega
      have a3 : j < o + vs.length := by omega
      simp [hj, h3, a1, a3]
    · by_cases h4 : j < o + vs.length
      · have a1 : base + j < base + o + vs.length := by omega
        have a2 : ¬ base + j < base + o := by omega
        have a3 : base + j - (base + o) = j - o := by omega
        simp [hj, h3, h4, a1, a3]
      · have a1 : ¬ base + j < base + o + vs.length := by omega
        have a3 : base + o + vs.length + (base + j - (base + o + vs.length)) = base + (o + vs.length + (j - (o + vs.length))) := by omega
        have a4 : o + vs.length + (j - (o + vs.length)) < n := by omega
        simp [hj, h4, a1, a3, a4]
  · have a1 : ¬ j < o := by omega
    have a2 : ¬ j < o + vs.length := by omega
    have a3 : ¬ o + vs.length + (j - (o + vs.length)) < n := by omega
    simp [hj, a2, a3]

theorem oneCell_of {F : FM} {l l' : List Value} (h : VL F l l') (h1 : oneCells l = true) : ∀ v ∈ l', v.oneCell' = true := by
  induction h with
  | nil => intro v hv; cases hv
  | cons hv _ ih =>
    intro u hu
    rcases List.mem_cons.1 hu with rfl | hu
    · cases hv <;> first | rfl | (simp [oneCells] at h1; done)
    · refine ih ?_ u hu
      cases hv <;> first | exact h1 | (simp [oneCells] at h1; done)

/-- Writing a run of cells. -/
theorem put_sound {β : Type} {F : FM} {H : Heap} {nx : Nat} {b o' : Nat} {vs : List Value} (s' : Option Nat) (z : β) (k : Heap → β) :
    putCK H ⟨b, o', s'⟩ vs z k = z ∨ ∃ H', putCK H ⟨b, o', s'⟩ vs z k = k H' ∧ ∀ (F : FM) (P : Program) (w : World) (t : Tgt) (vs' : List Value), HR F H nx w → F b = some t → VL F vs vs' → (∀ v ∈ vs', v.oneCell' = true) →
      ∃ w', (storeCells ⟨t.blk, t.base + o', none⟩ vs').run P w = .ok () w' ∧ Stp F H nx w F H' nx w' := by
  unfold putCK
  cases s' with
  | some q => exact .inl rfl
  | none =>
    dsimp only
    rw [getB_eq]
    cases hg : getH H b with
    | none => exact .inl rfl
    | some blk =>
      cases blk with
      | map es c => exact .inl rfl
      | rom c => exact .inl rfl
      | cells c sl =>
        dsimp only [Option.elim_some]
        cases hb : Nat.ble (o' + vs.length) c.length with
        | false => exact .inl rfl
        | true =>
          dsimp only [cond_true]
          rw [spine_eq, hsK_eq]
          refine .inr ⟨_, rfl, fun F P w t vs' hr hF hvl hone => ?_⟩
          have hle : o' + vs.length ≤ c.length := Nat.le_of_ble_eq_true hb
          have hbn := hr.hb.lt hF
          obtain ⟨c', e, h1, h2, h3, h4, h5, h6⟩ := hr.hb.get hF hg
          have hvlen := hvl.length
          have hrun := run_storeCells_at P t.blk (t.base + o') e vs' 0 c' w h1 (by simp only [Nat.add_zero]; omega) hone
          refine ⟨_, hrun, Stp.update hr hbn hg rfl rfl hF rfl rfl rfl (by simp) (fun k hk => setRow_other w _ k _ hk) ?_⟩
          refine ⟨_, e, setRow_heap w t.blk c' _ e (0, 0) h1, ?_, ?_, h4, ?_, ?_⟩
          · simp; omega
          · simp; omega
          · simp; omega
          · have e1 : (c.take o' ++ vs ++ c.drop (o' + vs.length)).length = c.length := by simp; omega
            rw [e1]
            simp only [Nat.add_zero]
            have hcl : c'.toList.length = c'.size := by simp
            rw [splice_eq c'.toList vs' t.base o' c.length (by omega) (by omega)]
            rw [← hvlen]
            exact ((h6.take o').append hvl).append (h6.drop _)
end Go.Clo
