/-
  maps.Copy of the registered queries: the destination holds what it held, and the source's entries, whatever the order in which they come.
-/
import Derived.Lib.SlMapMerge
import Derived.WalkKit
import Derived.Maps.Ext
import Derived.Maps.RangeWalk
import Derived.Laws.IdiomRangeMap
import Derived.Test.YtchmiblahedkcaaGreatDoorB15
set_option linter.all false
namespace Go.Proofs.YtchmiblahedkcaaGreatDoor
open Go.Shelf Go.RowKit Go.Maps

/-- An element reads as itself, if it is a view's seven cells. -/
def RV : Value → Option (DataW Value × List MemPlace)
  | .agg ⟨[a, b, c, d, e, f, g]⟩ => if a.oneCell' = true ∧ b.oneCell' = true ∧ c.oneCell' = true ∧ d.oneCell' = true ∧ e.oneCell' = true ∧ f.oneCell' = true ∧ g.oneCell' = true then some (.held (.agg ⟨[a, b, c, d, e, f, g]⟩), []) else none
  | _ => none
theorem RV_inv {v : Value} {y : DataW Value} {p : List MemPlace} (h : RV v = some (y, p)) : ∃ a b c d e f g, v = .agg #[a, b, c, d, e, f, g] ∧ y = .held v ∧ (a.oneCell' = true ∧ b.oneCell' = true ∧ c.oneCell' = true ∧ d.oneCell' = true ∧ e.oneCell' = true ∧ f.oneCell' = true ∧ g.oneCell' = true) := by
  unfold RV at h
  split at h
  · split at h
    · rename_i hh; cases h; exact ⟨_, _, _, _, _, _, _, rfl, rfl, hh⟩
    · cases h
  · cases h
/-- A cell of the last block is written. -/
theorem store1 {P : Program} (w : World) (n : Nat) (hn : w.heap.size = n) (T : TypeId) (c : Array Value) (i : Nat) (q : Value) (hq : q.oneCell' = true) (hi : i < c.size) :
    (store ⟨n, i, none⟩ q).run P (w.alloc (.cells c T)) = .ok () (w.alloc (.cells (c.setIfInBounds i q) T)) := by
  subst hn
  rw [run_store _ _ _ _ _ hq]
  have h0 : (w.alloc (.cells c T)).heap[w.heap.size]? = some (.cells c T (0, 0)) := heap_alloc_new w _
  have h1 : (w.alloc (.cells c T)).cell? ⟨w.heap.size, i, none⟩ = some c[i] := by
    unfold World.cell?; simp only [h0]; simp [hi]
  have h2 : (w.alloc (.cells c T)).frozen? ⟨w.heap.size, i, none⟩ = false := by
    unfold World.frozen?; simp only [h0]; simp
  have h3 : (w.alloc (.cells c T)).setCell ⟨w.heap.size, i, none⟩ q = w.alloc (.cells (c.setIfInBounds i q) T) := by
    have e : ∀ (f : Obj → Obj) (o : Obj), (w.heap.push o).modify w.heap.size f = w.heap.push (f o) := by
      intro f o
      apply Array.ext_getElem?
      intro j
      rw [Array.getElem?_modify, Array.getElem?_push, Array.getElem?_push]
      by_cases hj : j = w.heap.size
      · subst hj; simp
      · simp [hj, Ne.symm hj]
    unfold World.setCell
    show ({ w with heap := (w.heap.push (.cells c T)).modify w.heap.size _ } : World) = { w with heap := w.heap.push _ }
    rw [e]; rfl
  rw [h1, h2]; simp only [Bool.false_eq_true, if_false, h3]
set_option maxHeartbeats 4000000 in
set_option maxRecDepth 100000 in
theorem mcopy34_w (bd bs nd ns : Nat) (Ds : DataW Value) (w : World) (K : Keyed Tryz.prog 9) (hd : w.ownsMap Tryz.prog 9 RV bd nd (.map [])) (hs : w.ownsMap Tryz.prog 9 RV bs ns Ds) (hne : bd ≠ bs) (hroom : nd + Maps.size Ds ≤ maxLen) :
    Calls Tryz.prog 34 #[.map (some bd), .map (some bs)] w fun e w' => e = .returned (.tuple #[]) ∧ w'.ownsMap Tryz.prog 9 RV bd (nd + Maps.size Ds) Ds ∧ w.grownBy w' (some bd) := by
  have hbd := hd.lt
  have hbs := hs.lt
  go_enter Tryz.func34, Tryz.ntmps34
  go_wp2_with (first
    | (at_range; refine wpList_range_own _ rfl _ 48 rfl 9 93 K Tryz.underlying48 RV bs ns _ rfl hs ?_; intro w0 hrg0 hg0 hs0)
    | go_in)
  go_frame
  go_loopw [8] (fun _ wr => ∃ (left : Lit → Bool) (cnt : Nat) (Dout : DataW Value), wr.ranges Tryz.prog 9 RV bs w.heap.size ns Ds left cnt ∧ cnt ≤ Maps.size Ds ∧
      wr.ownsMap Tryz.prog 9 RV bd (nd + (Maps.size Ds - cnt)) Dout ∧ Merged Dout (.map []) Ds left ∧ w.grownBy wr (some bd))
    (fun _ wr => wr.rangeLeft bs w.heap.size)
  case atStart =>
    exact ⟨_, _, .map [], hrg0, Nat.le_refl _, (hd.kept hg0 (by simp)).mono (by omega), merged_start (.map []) Ds, hg0.but _⟩
  case round =>
    obtain ⟨left, cnt, Dout, hrg, hcs, hout, hM, hgw⟩ := hrel
    go_wp2_with (first
      | (at_next; refine wpList_next_ranges _ rfl _ rfl 9 K RV id id (fun key _ _ => ⟨key, rfl⟩) (fun v _ _ => ⟨v, rfl⟩) bs w.heap.size ns _ _ _ rfl hrg ?_ ?_)
      | go_in)
    · -- NOTHING IS LEFT
      intro hc0 hl0
      go_wp2
      go_end0
      subst hc0
      have e : Dout = Ds := Maps.ext (hout.canon K) (hs.canon K) (fun k => by rw [hM.1 k, hl0 k]; simp [has]) (fun k z hk => by
        have h1 := hM.1 k
        rw [hl0 k, hk] at h1
        have h2 : has Ds k = true := by simpa [has] using h1.symm
        rw [hM.2 k z, hl0 k, h2]; simp)
      rw [e] at hout
      exact ⟨rfl, by simpa using hout, hgw⟩
    · intro x c kl yd yp w1 cnt1 hkey hlx hv hat hrg1 hlt hg1 hs1 hen
      have hout1 := hout.kept hg1 (fun e => by have := Option.some.inj e; omega)
      obtain ⟨q0, q1, q2, q3, q4, q5, q6, rfl, rfl, o0, o1, o2, o3, o4, o5, o6⟩ := RV_inv hv
      go_wp2
      simp only [store1 (P := Tryz.prog) w1 wr.heap.size hs1, o0, o1, o2, o3, o4, o5, o6, List.size_toArray, List.length_cons, List.length_nil, Nat.reduceAdd, Nat.reduceLT, Result.andThen_ok, List.setIfInBounds_toArray, List.set_cons_zero, List.set_cons_succ, Array.size_setIfInBounds]
      simp only [Oper.upon, Act.put]
      have hgA := World.grownBy_alloc w1 (.cells #[q0, q1, q2, q3, q4, q5, q6] 93) none
      have hout2 := hout1.kept hgA (by simp)
      have hrg2 := hrg1.kept hgA (by simp) (by simp)
      go_wp2_with (first
        | (at_mapUpdate; refine wpList_mapUpdate_own _ rfl _ _ _ 48 rfl 9 93 K Tryz.underlying48 RV bd _ _ rfl hout2 (by omega) _ _ _ rfl rfl hkey _ yp hv ?_; intro w2 hout3 hg2; go_frame)
        | go_in)
      have hrg3 := hrg2.kept hg2 (fun e => hne (Option.some.inj e).symm) (fun e => by have := Option.some.inj e; omega)
      go_roundw
      case rel =>
        exact ⟨_, cnt1, _, hrg3, by omega, hout3.mono (by omega), merged_step hM hout.isMap (K.key hkey) hat, ((hgw.andThen hg1 (fun j hj => .inl (by cases hj; exact Nat.le_refl _))).andThen hgA (fun j hj => by cases hj)).andThen hg2 (fun j hj => .inr hj)⟩
      case measure => rw [hrg3.left_eq, hrg.left_eq]; exact hlt
set_option maxHeartbeats 2000000 in
theorem mcopy34_nil (pd : Option Nat) (w : World) :
    Calls Tryz.prog 34 #[.map pd, .map none] w fun e w' => e = .returned (.tuple #[]) ∧ w' = w.alloc (.mapIter none 0 #[] 0) := by
  have hrg := run_range_nilMap (P := Tryz.prog) w 48 _ _ Tryz.underlying48
  have hnx : ∀ ty, (Instr.next (.pointer (some ⟨w.heap.size, 0, none⟩)) false ty).run Tryz.prog (w.alloc (.mapIter none 0 #[] 0)) = _ := fun ty => run_next_nilMap _ ty 0 0 #[]
  go_enter Tryz.func34, Tryz.ntmps34
  go_wp2
  refine wp_loop_rounds 1 ?_
  rw [rounds_succ]
  go_wp2
  go_end0
  exact ⟨rfl, rfl⟩
end Go.Proofs.YtchmiblahedkcaaGreatDoor
