/-
  The closed executor: append, copy, and all operations with an effect.
-/
import Derived.Test.YtdecggbglnbhlaaGreatDoorCloC
set_option linter.unusedSimpArgs false
set_option linter.unusedVariables false
set_option linter.unusedSectionVars false
namespace Go.Clo

theorem grow_step {F : FM} {H : Heap} {nx : Nat} {w : World} (hr : HR F H nx w) {old new old' new' : List Value} (hold : VL F old old') (hnew : VL F new new') {need size newCap : Nat} {zv : Value} {e : TypeId} (q : Nat)
    (hlen : (old ++ new).length = need * size) (hsz : 0 < size) (hz : zv.cells.size = size) (hcap : need ≤ newCap) :
    ∃ F', Stp F H nx w F' (hs H nx (some (.cells (old ++ new) size))) (nx + 1) (({ w with drawn := q } : World).alloc (.cells (old'.toArray ++ new'.toArray ++ Builtin.zeroCells zv.cells (newCap - need)) e (0, 0))) ∧
      VR F' (.slice (some ⟨nx, 0, none⟩) need need) (.slice (some ⟨w.heap.size, 0, none⟩) need newCap) := by
  have hfresh : F nx = none := hr.fresh nx (Nat.le_refl _)
  have hsub : (newCap - need) * size = newCap * size - need * size := Nat.sub_mul _ _ _
  have hmul : need * size ≤ newCap * size := Nat.mul_le_mul_right _ hcap
  refine ⟨upd F nx ⟨w.heap.size, 0, need * size, size, newCap * size⟩, ?_, ?_⟩
  · refine Stp.name hr rfl rfl rfl rfl (by simp) (fun k hk => alloc_get _ _ k hk) ?_ (Nat.le_refl _)
    have hl := (hold.append hnew).length
    refine ⟨_, e, alloc_top _ _, ?_, hlen.symm, rfl, by rw [hlen]; simp; omega, ?_⟩
    · simp only [Array.size_append, zeroCells_size, hz]
      simp at hl hlen
      simp
      omega
    · have hd : ((old'.toArray ++ new'.toArray ++ Builtin.zeroCells zv.cells (newCap - need)).toList.drop 0).take (old ++ new).length = old' ++ new' := by
        rw [List.drop_zero, Array.toList_append, Array.toList_append]
        simp only [List.toList_toArray]
        rw [hl]
        exact List.take_left
      show VL _ (old ++ new) ((List.drop 0 _).take _)
      rw [hd]
      exact (hold.append hnew).mono (upd_le hfresh _)
  · have := VR.slice (F := upd F nx ⟨w.heap.size, 0, need * size, size, newCap * size⟩) (b := nx) (o := 0) (n := need) (c := need) (c' := newCap) (upd_same F nx _) (.inr ⟨hsz, hcap, by simp, by simp⟩)
    exact this

theorem inplace_step {F : FM} {H : Heap} {nx : Nat} {w : World} (P : Program) (hr : HR F H nx w) {b o' : Nat} {t : Tgt} {c : List Value} {size : Nat} (hg : getH H b = some (.cells c size)) (hF : F b = some t)
    {sLen m cap' : Nat} {old new new' : List Value} (hold : takeN (sLen * size) (c.drop o') = some old) (hnew : VL F new new') (hone : ∀ v ∈ new', v.oneCell' = true) (hlen : (old ++ new).length = (sLen + m) * size) (hsz : 0 < size)
    (hfit : sLen + m ≤ cap') (hroom : t.base + o' + cap' * size ≤ t.rsz) :
    ∃ F' w', (storeCells ⟨t.blk, t.base + o' + sLen * size, none⟩ new').run P w = .ok () w' ∧ Stp F H nx w F' (hs (hs H b none) nx (some (.cells (old ++ new) size))) (nx + 1) w' ∧
      VR F' (.slice (some ⟨nx, 0, none⟩) (sLen + m) (sLen + m)) (.slice (some ⟨t.blk, t.base + o', none⟩) (sLen + m) cap') := by
  have hfresh : F nx = none := hr.fresh nx (Nat.le_refl _)
  obtain ⟨eo, el⟩ := takeN_eq hold
  obtain ⟨c', e, h1, h2, h3, h4, h5, h6⟩ := hr.hb.get hF hg
  have hnl := hnew.length
  have hml : new.length = m * size := by simp [el] at hlen; rw [Nat.add_mul] at hlen; omega
  have hmul : (sLen + m) * size ≤ cap' * size := Nat.mul_le_mul_right _ hfit
  have hadd : (sLen + m) * size = sLen * size + m * size := Nat.add_mul _ _ _
  have hcl : c'.toList.length = c'.size := by simp
  have hrun := run_storeCells_at P t.blk (t.base + o' + sLen * size) e new' 0 c' w h1 (by simp only [Nat.add_zero]; omega) hone
  simp only [Nat.add_zero] at hrun
  refine ⟨upd F nx ⟨t.blk, t.base + o', (sLen + m) * size, size, t.rsz⟩, _, hrun, ?_, ?_⟩
  · refine Stp.rename hr hg rfl rfl hF rfl rfl rfl rfl (by simp) (fun k hk _ => setRow_other w _ k _ hk) ?_
    refine ⟨_, e, setRow_heap w t.blk c' _ e (0, 0) h1, ?_, hlen.symm, rfl, ?_, ?_⟩
    · simp; omega
    · rw [hlen]; dsimp only; omega
    · rw [hlen]
      have hs := splice_eq c'.toList new' (t.base + o') (sLen * size) ((sLen + m) * size) (by omega) (by omega)
      show VL _ _ ((List.drop (t.base + o') (_ : Array Value).toList).take _)
      rw [List.toList_toArray, hs]
      have hd0 : ((c'.toList.drop (t.base + o')).take ((sLen + m) * size)).drop (sLen * size + new'.length) = [] := by
        apply List.drop_eq_nil_of_le; simp; omega
      rw [hd0, List.append_nil]
      have hvo : VL F old ((((c'.toList.drop t.base).take c.length).drop o').take (sLen * size)) := by rw [eo]; exact (h6.drop o').take _
      have hocl : sLen * size ≤ c.length - o' := by
        have hh := el
        rw [eo] at hh
        simp at hh
        omega
      have heq : (((c'.toList.drop t.base).take c.length).drop o').take (sLen * size) = ((c'.toList.drop (t.base + o')).take ((sLen + m) * size)).take (sLen * size) := by
        apply List.ext_getElem?
        intro j
        simp only [List.getElem?_take, List.getElem?_drop]
        by_cases hj : j < sLen * size
        · have a1 : o' + j < c.length := by omega
          have a2 : j < (sLen + m) * size := by omega
          simp [hj, a1, a2, Nat.add_assoc]
        · simp [hj]
      rw [← heq]
      exact (hvo.append hnew).mono (upd_le hfresh _)
  · have := VR.slice (F := upd F nx ⟨t.blk, t.base + o', (sLen + m) * size, size, t.rsz⟩) (b := nx) (o := 0) (n := sLen + m) (c := sLen + m) (c' := cap') (upd_same F nx _) (.inr ⟨hsz, hfit, by simp, by simpa using hroom⟩)
    exact this
end Go.Clo
