/-
  snapshot.Store's Collect: the versions that are neither pinned nor the latest are gone, whatever the order in which they come.
  snapshot.Store's Collect, as the executor's abstract heaps have it.
-/
import Derived.Lib.SlMapFilter
import Derived.WalkKit
import Derived.Maps.Ext
import Derived.Maps.RangeWalk
import Derived.Maps.AppendAt
import Derived.Laws.IdiomRangeMap
import Derived.Deep.LoopGhost
import Derived.Deep.RegionWith
import Derived.Sort.OwnSortedInts
import Derived.Handy
import Derived.Laws.ResultCell
import Derived.Test.YtbmiedinclieaaaGreatDoorU10
import Derived.Test.YtbmiedinclieaaaGreatDoorU8
import Derived.Test.YtbmiedinclieaaaGreatDoorU11
set_option linter.all false
namespace Go.Proofs.YtbmiedinclieaaaGreatDoor
open Go.Shelf Go.RowKit Go.Maps

/-- An element reads as itself, if it is a version's two cells. -/
def RW : Value → Option (DataW Value × List MemPlace)
  | .agg ⟨[.map m, .int .i64 p]⟩ => some (.held (.agg ⟨[.map m, .int .i64 p]⟩), [])
  | _ => none
theorem RW_inv {v : Value} {y : DataW Value} {p : List MemPlace} (h : RW v = some (y, p)) : ∃ m q, v = .agg #[.map m, .int .i64 q] ∧ y = .held v := by
  unfold RW at h
  split at h
  · cases h; exact ⟨_, _, rfl, rfl⟩
  · cases h
/-- A version that is to go. -/
def pdW (l : Int) (kl : Lit) (y : DataW Value) : Bool := match y with
  | .held (.agg ⟨[_, .int .i64 p]⟩) => decide (p = 0) && !(match kl with | .int .i64 z => decide (z = l) | _ => false)
  | _ => false
theorem K3 : Keyed Tryz.prog 3 := int_keyed Tryz.underlying3
theorem intInfo : (Tryz.prog.info? 3).map (fun i => (i.zero, i.size, i.bytes)) = some (some (.int .i64 0), 1, 8) := by kernel_rfl
theorem kept_alloc {w : World} {b : Nat} {x : Obj} {o : Obj} (h : w.heap[b]? = some x) : (w.alloc o).heap[b]? = some x := by
  have hl := (Array.getElem?_eq_some_iff.1 h).1
  show (w.heap.push o)[b]? = _
  rw [Array.getElem?_push, if_neg (by omega)]; exact h
theorem new_at {w : World} {o : Obj} {k : Nat} (h : k = w.heap.size) : (w.alloc o).heap[k]? = some o := by subst h; exact heap_alloc_new w o
theorem grown_drew {a w : World} (h : a.grownBy w none) : a.grownBy w.drew none := ⟨h.os, h.tape, h.output, h.size, h.block⟩
theorem kept_drew {w : World} {b : Nat} {x : Obj} (h : w.heap[b]? = some x) : w.drew.heap[b]? = some x := h
/-- A cell of the last block is written. -/
theorem store1 {P : Program} (w : World) (n : Nat) (hn : w.heap.size = n) (T : TypeId) (c : Array Value) (i : Nat) (q : Value) (hq : q.oneCell' = true) (hi : i < c.size) :
    (store ⟨n, i, none⟩ q).run P (w.alloc (.cells c T)) = .ok () (w.alloc (.cells (c.setIfInBounds i q) T)) := by
  subst hn
  rw [run_store _ _ _ _ _ hq]
  have h0 : (w.alloc (.cells c T)).heap[w.heap.size]? = some (.cells c T (0, 0)) := heap_alloc_new w _
  have h1 : (w.alloc (.cells c T)).cell? ⟨w.heap.size, i, none⟩ = some c[i] := by
    unfold World.cell?; simp only [h0]; simp [hi]
  have h2 : (w.alloc (.cells c T)).frozen? ⟨w.heap.size, i, none⟩ = false := by
    unfold World.frozen?; simp only [h0]; simp
  have h3 : (w.alloc (.cells c T)).setCell ⟨w.heap.size, i, none⟩ q = w.alloc (.cells (c.setIfInBounds i q) T) := by
    have e : ∀ (f : Obj → Obj) (o : Obj), (w.heap.push o).modify w.heap.size f = w.heap.push (f o) := by
      intro f o
      apply Array.ext_getElem?
      intro j
      rw [Array.getElem?_modify, Array.getElem?_push, Array.getElem?_push]
      by_cases hj : j = w.heap.size
      · subst hj; simp
      · simp [hj, Ne.symm hj]
    unfold World.setCell
    show ({ w with heap := (w.heap.push (.cells c T)).modify w.heap.size _ } : World) = { w with heap := w.heap.push _ }
    rw [e]; rfl
  rw [h1, h2]; simp only [Bool.false_eq_true, if_false, h3]
theorem grown_set (W : World) (b i : Nat) (v : Value) : W.grownBy (W.setCell ⟨b, i, none⟩ v) (some b) := by
  refine ⟨rfl, rfl, rfl, by simp [World.setCell], fun k hk hne => ?_⟩
  have : b ≠ k := fun e => hne (by rw [e])
  simp [World.setCell, Array.getElem?_modify, this]
/-- What is read of an entry is what its key reads as. -/
theorem came {es0 : List (Lit × DataW Value)} (hap : es0.Pairwise fun p q => p.1 ≠ q.1) {kl : Lit} (hk : WideAt.IsKeyLit kl) {d : DataW Value} (hat : ∀ zd, (DataW.map es0).atKey kl zd = d) : ∀ p ∈ es0, p.1 = kl → p.2 = d := fun p hp e => by
  have hm : (kl, p.2) ∈ es0 := by rw [← e]; exact hp
  exact (WideAt.atKey_mem .nil hk hap hm).symm.trans (hat .nil)
theorem fk_go {pd : Lit → DataW Value → Bool} {es0 : List (Lit × DataW Value)} {left : Lit → Bool} {kl : Lit} (hk : WideAt.IsKeyLit kl) {d : DataW Value} (hc : ∀ p ∈ es0, p.1 = kl → p.2 = d) (hp : pd kl d = true) : (Fk pd es0 left).del kl = Fk pd es0 fun z => left z && !z.sameKey kl := by
  show DataW.map ((es0.filter fun p => !pd p.1 p.2 || left p.1).filter fun p => !p.1.sameKey kl) = DataW.map (es0.filter fun p => !pd p.1 p.2 || (left p.1 && !p.1.sameKey kl))
  rw [List.filter_filter]
  refine congrArg DataW.map (List.filter_congr fun p hm => ?_)
  cases hs : p.1.sameKey kl with
  | false => simp [hs]
  | true =>
    have e := WideAt.sameKey_eq hs
    simp [e, hc p hm e, hp]
theorem fk_stay {pd : Lit → DataW Value → Bool} {es0 : List (Lit × DataW Value)} {left : Lit → Bool} {kl : Lit} {d : DataW Value} (hc : ∀ p ∈ es0, p.1 = kl → p.2 = d) (hp : pd kl d = false) : Fk pd es0 left = Fk pd es0 fun z => left z && !z.sameKey kl := by
  refine congrArg DataW.map (List.filter_congr fun p hm => ?_)
  cases hs : p.1.sameKey kl with
  | false => simp [hs]
  | true =>
    have e := WideAt.sameKey_eq hs
    simp [e, hc p hm e, hp]
set_option maxHeartbeats 4000000 in
set_option maxRecDepth 100000 in
theorem collect_w (b n : Nat) (l : Int) (Ds : DataW Value) (w : World) (es : Array MapEntry) (c : Nat) (hb : w.heap[b]? = some (.map es c)) (hs : w.ownsMap Tryz.prog 3 RW b n Ds) (hc : ∀ W : World, ∀ g, W.heap[g]? = some (.map es c) → W.ownsMap Tryz.prog 3 RW g n Ds) (hn : Maps.size Ds ≤ 1000) :
    Calls Tryz.prog 32 #[.agg #[.map (some b), .int .i64 l]] w fun e w' => ∃ g rv, e = .returned (.tuple #[.agg #[.map (some g), .int .i64 l], rv]) ∧ w.heap.size ≤ g ∧ w'.ownsMap Tryz.prog 3 RW g n (Lib.deleteFuncD (pdW l) Ds) ∧ Below w.heap.size w w' := by
  have hbl := hs.lt
  obtain ⟨i0, hi, hz0, hz1, hz2⟩ := info_parts intInfo
  go_enter Tryz.func32, Tryz.ntmps32
  go_wp2
  rename_i Q K hK
  have fin : ∀ (g q : Nat) (W : World), W.heap[w.heap.size]? = some (.cells #[.map (some b), .int .i64 l] 41) → W.heap[w.heap.size + 1]? = some (.cells #[.map none, .int .i64 0] 41) → W.heap[q]? = some (.cells #[.map (some g), .int .i64 l] 41) → W.heap[g]? = some (.map es c) →
      w.heap.size + 1 < g → w.heap.size + 1 < q → q ≠ g → w.grownBy W none →
      Exit.then K Q Exit.normal { tmps := #[.agg #[.map (some b), .int .i64 l], .pointer (some ⟨w.heap.size, 0, none⟩), .pointer (some ⟨w.heap.size + 1, 0, none⟩), .slice none 0 0, .pointer (some ⟨q, 0, none⟩), undef, undef, undef, .pointer (some ⟨w.heap.size, 0, none⟩), .map (some b), .map (some g), .pointer (some ⟨w.heap.size, 1, none⟩), .int .i64 l, .agg #[.map (some g), .int .i64 l], undef, undef, undef, undef, undef, undef, undef, undef, undef, undef, undef, undef, undef, undef, undef, undef, undef, undef, undef, undef, undef, undef, undef, undef, undef, undef, undef, undef], defers := [] } W := by
    intro g q W h1 h2 h3 h4 hg hq hqg hW
    have hsW := hs.kept hW (by simp)
    have hgW := hc W g h4
    obtain ⟨es0, rfl, hap, hkeys⟩ := hsW.entries K3
    have hlq := (Array.getElem?_eq_some_iff.1 h3).1
    have hlg := hgW.lt
    have c0 : W.cell? ⟨w.heap.size, 0, none⟩ = some (.map (some b)) := by simp [World.cell?, h1]
    have c1 : W.cell? ⟨w.heap.size, 1, none⟩ = some (.int .i64 l) := by simp [World.cell?, h1]
    refine hK _ _ ?_
    clear hK
    go_wp2_with (first
      | (at_range; refine wpList_range_own _ rfl _ 39 rfl 3 190 K3 Tryz.underlying39 RW b n _ rfl hsW ?_; intro w0 hrg0 hg0 hs0)
      | go_in)
    go_frame
    go_loopw [5] (fun v wr => ∃ (left : Lit → Bool) (cnt : Nat) (zs : List Int), wr.ranges Tryz.prog 3 RW b W.heap.size n (.map es0) left cnt ∧ wr.ownsMap Tryz.prog 3 RW g n (Fk (pdW l) es0 left) ∧ wr.ownsRow (W.heap.size + 1) 3 1 v zs.length (zs.map (Value.int .i64)) ∧ zs.length + cnt ≤ 1000 ∧
        wr.heap[w.heap.size]? = some (.cells #[.map (some b), .int .i64 l] 41) ∧ wr.heap[w.heap.size + 1]? = some (.cells #[.map none, .int .i64 0] 41) ∧ wr.heap[q]? = some (.cells #[.map (some g), .int .i64 l] 41) ∧ w.grownBy wr none ∧ W.heap.size < wr.heap.size)
      (fun _ wr => wr.rangeLeft b W.heap.size)
    case atStart =>
      exact ⟨_, _, [], hrg0, by rw [Fk_start hkeys]; exact hgW.kept hg0 (by simp), World.ownsRow_nil _ _ _ _, by simpa using hn, (hg0.block _ (by omega) (by simp)).trans h1, (hg0.block _ (by omega) (by simp)).trans h2, (hg0.block _ hlq (by simp)).trans h3, hW.andThen hg0 (fun j hj => by cases hj), by omega⟩
    case round =>
      obtain ⟨left, cnt, zs, hrg, hfk, hrow, hcz, k1, k2, k3, hgw, hsz⟩ := hrel
      go_wp2_with (first
        | (at_next; refine wpList_next_ranges _ rfl _ rfl 3 K3 RW id id (fun key _ _ => ⟨key, rfl⟩) (fun v _ _ => ⟨v, rfl⟩) b W.heap.size n _ _ _ rfl hrg ?_ ?_)
        | go_in)
      · intro hc0 hl0
        rw [Fk_end hl0] at hfk
        have ob : ∀ k, k ≤ W.heap.size → some k ≠ u5.ownBlock := fun k hk e => by have := (hrow.lt k e.symm).1; omega
        have hsort : Calls Tryz.prog 75 #[u5] wr fun e w4 => e = .returned (.tuple #[]) ∧ wr.grownBy w4 u5.ownBlock := by
          rcases hrow.2 with ⟨rfl, h0⟩ | ⟨gg, cap, cur, rfl, hgg, hcur, a1, a2, a3, a4⟩
          · exact (AnyM.slices_Sort_int_none Tryz.sort71 none 0 wr).mono fun e w' ⟨g1, g2⟩ => ⟨g1, by subst g2; exact ⟨rfl, rfl, rfl, Nat.le_refl _, fun _ _ _ => rfl⟩⟩
          · exact (AnyM.slices_Sort_int Tryz.sort71 gg 0 cap zs wr (holds_of_blockI hcur (by simpa using a4)) (Array.getElem?_eq_some_iff.1 hcur).1 (by omega)).mono fun e w' ⟨g1, nn, os, g2⟩ => ⟨g1, by subst g2; exact grownBy_sortedI _⟩
        go_wp2_with (first
          | (go_at_call 75; refine hsort.mono ?_; rintro e w4 ⟨rfl, hg4⟩; have f2 := (hg4.block (w.heap.size + 1) (by omega) (ob _ (by omega))).trans k2; have f3 := (hg4.block q (by omega) (ob q (by omega))).trans k3; have d5 : w4.cell? ⟨q, 0, none⟩ = some (.map (some g)) := (by simp only [World.cell?, f3]; rfl); have d6 : w4.cell? ⟨q, 1, none⟩ = some (.int .i64 l) := (by simp only [World.cell?, f3]; rfl); have d7 : w4.cell? ⟨w.heap.size + 1, 0, none⟩ = some (.map none) := (by simp only [World.cell?, f2]; rfl); have d8 : w4.cell? ⟨w.heap.size + 1, 1, none⟩ = some (.int .i64 0) := (by simp only [World.cell?, f2]; rfl); have z7 : w4.frozen? ⟨w.heap.size + 1, 0, none⟩ = false := (by simp [World.frozen?, f2]); have z8 : w4.frozen? ⟨w.heap.size + 1, 1, none⟩ = false := (by simp [World.frozen?, f2]))
          | go_in)
        have r0 : (w4.setCell ⟨w.heap.size + 1, 0, none⟩ (.map (some g))).cell? ⟨w.heap.size + 1, 0, none⟩ = some (.map (some g)) := by simp [World.cell?, World.setCell, Array.getElem?_modify, f2]
        have r1 : ((w4.setCell ⟨w.heap.size + 1, 0, none⟩ (.map (some g))).setCell ⟨w.heap.size + 1, 1, none⟩ (.int .i64 l)).cell? ⟨w.heap.size + 1, 1, none⟩ = some (.int .i64 l) := by simp [World.cell?, World.setCell, Array.getElem?_modify, f2]
        refine bodyPost_ret (v := .tuple #[.agg #[.map (some g), .int .i64 l], u5]) (by simp [results, Tryz.results32, go_sem, r0, r1, Result.andThen]; try rfl) rfl ?_
        have s4 := hg4.size
        refine ⟨g, u5, by first | rfl | (simp; done) | trace_state, by omega, ((hfk.kept hg4 (ob g (by omega))).kept (grown_set _ _ _ _) (fun e => by have := Option.some.inj e; omega)).kept (grown_set _ _ _ _) (fun e => by have := Option.some.inj e; omega), ?_⟩
        exact ((((Below.refl _ w).grown hgw (Nat.le_refl _) (fun k e => by cases e)).grown hg4 (by omega) (fun k e => by have := (hrow.lt k e).1; omega)).setCell (by show _ ≤ w.heap.size + 1; omega) _).setCell (by show _ ≤ w.heap.size + 1; omega) _
      · intro x c' kl yd yp w1 cnt1 hkey hlx hv hat hrg1 hlt hg1 hs1 hen
        obtain ⟨z, rfl, rfl, hwz⟩ := Maps.keyOf_int_inv Tryz.underlying3 hkey
        obtain ⟨m, p, rfl, rfl⟩ := RW_inv hv
        have hcame := came hap (K3.key hkey) hat
        have hfk1 := hfk.kept hg1 (fun e => by have := Option.some.inj e; omega)
        have e1 := (hg1.block w.heap.size (by omega) (fun e => by have := Option.some.inj e; omega)).trans k1
        have e2 := (hg1.block (w.heap.size + 1) (by omega) (fun e => by have := Option.some.inj e; omega)).trans k2
        have e3 := (hg1.block q (by omega) (fun e => by have := Option.some.inj e; omega)).trans k3
        have d1 : w1.cell? ⟨w.heap.size, 1, none⟩ = some (.int .i64 l) := by simp [World.cell?, e1]
        have d3 : w1.cell? ⟨q, 0, none⟩ = some (.map (some g)) := by simp [World.cell?, e3]
        have hrow1 := hrow.kept hg1 (.inr fun e => by have := (hrow.lt _ e).1; omega)
        have hgw1 := hgw.andThen hg1 (fun j hj => by cases hj; exact .inl (by omega))
        have hgA := World.grownBy_alloc w1 (.cells #[.map m, .int .i64 p] 190) none
        have hsA : (w1.alloc (.cells #[.map m, .int .i64 p] 190)).heap.size = wr.heap.size + 1 := by simp [hs1]
        have stay : pdW l (.int .i64 z) (.held (.agg #[.map m, .int .i64 p])) = false → (∃ (left : Lit → Bool) (cnt : Nat) (zs : List Int), (w1.alloc (.cells #[.map m, .int .i64 p] 190)).ranges Tryz.prog 3 RW b W.heap.size n (.map es0) left cnt ∧ (w1.alloc (.cells #[.map m, .int .i64 p] 190)).ownsMap Tryz.prog 3 RW g n (Fk (pdW l) es0 left) ∧ (w1.alloc (.cells #[.map m, .int .i64 p] 190)).ownsRow (W.heap.size + 1) 3 1 u5 zs.length (zs.map (Value.int .i64)) ∧ zs.length + cnt ≤ 1000 ∧
            (w1.alloc (.cells #[.map m, .int .i64 p] 190)).heap[w.heap.size]? = some (.cells #[.map (some b), .int .i64 l] 41) ∧ (w1.alloc (.cells #[.map m, .int .i64 p] 190)).heap[w.heap.size + 1]? = some (.cells #[.map none, .int .i64 0] 41) ∧ (w1.alloc (.cells #[.map m, .int .i64 p] 190)).heap[q]? = some (.cells #[.map (some g), .int .i64 l] 41) ∧ w.grownBy (w1.alloc (.cells #[.map m, .int .i64 p] 190)) none ∧ W.heap.size < (w1.alloc (.cells #[.map m, .int .i64 p] 190)).heap.size) ∧
            (w1.alloc (.cells #[.map m, .int .i64 p] 190)).rangeLeft b W.heap.size < wr.rangeLeft b W.heap.size := by
          intro hpd
          have hrg2 := hrg1.kept hgA (by simp) (by simp)
          refine ⟨⟨_, cnt1, zs, hrg2, ?_, hrow1.alloc _, by omega, kept_alloc e1, kept_alloc e2, kept_alloc e3, hgw1.andThen hgA (fun j hj => by cases hj), by omega⟩, by rw [hrg2.left_eq, hrg.left_eq]; exact hlt⟩
          rw [← fk_stay hcame hpd]
          exact hfk1.kept hgA (by simp)
        by_cases hp : p = 0
        · subst hp
          have d1' : (w1.alloc (.cells #[.map m, .int .i64 0] 190)).cell? ⟨w.heap.size, 1, none⟩ = some (.int .i64 l) := by simp only [World.cell?, kept_alloc e1]; rfl
          have d3' : (w1.alloc (.cells #[.map m, .int .i64 0] 190)).cell? ⟨q, 0, none⟩ = some (.map (some g)) := by simp only [World.cell?, kept_alloc e3]; rfl
          by_cases hzl : z = l
          · subst hzl
            go_wp2
            exact stay (by simp [pdW])
          · have hpd : pdW l (.int .i64 z) (.held (.agg #[.map m, .int .i64 0])) = true := by simp [pdW, hzl]
            have ob : ∀ k, k ≤ W.heap.size → some k ≠ u5.ownBlock := fun k hk e => by have := (hrow.lt k e.symm).1; omega
            have hnew := cell_one_new (w1.alloc (.cells #[.map m, .int .i64 0] 190)) (.int .i64 z) 3
            rw [hsA] at hnew
            have hgB := World.grownBy_alloc (w1.alloc (.cells #[.map m, .int .i64 0] 190)) (.cells #[.int .i64 z] 3) none
            have hs3 : ((w1.alloc (.cells #[.map m, .int .i64 0] 190)).alloc (.cells #[.int .i64 z] 3)).heap.size = wr.heap.size + 2 := by simp [hs1]
            go_wp2_with (first
              | (at_builtin; refine wpList_append_own _ rfl _ _ 47 rfl (W.heap.size + 1) 3 i0 (.int .i64 0) 1 8 Tryz.underlying47 hi hz0 hz1 hz2 rfl (by decide) _ _ _ rfl ((hrow1.alloc _).alloc _) ⟨wr.heap.size + 1, 0, none⟩ 1 1 [.int .i64 z] rfl rfl hnew (ints_oneCell .i64 [z]) (by unfold Go.maxLen; omega) (by omega) (by omega) ?_; intro v' w2 hown' hgrow2 hnil2; have f3 := (hgrow2.block q (by omega) (ob q (by omega))).trans (kept_alloc (kept_alloc e3)); have d4 : w2.cell? ⟨q, 0, none⟩ = some (.map (some g)) := (by simp only [World.cell?, f3]; rfl); have hfk2 := ((hfk1.kept hgA (by simp)).kept hgB (by simp)).kept hgrow2 (ob g (by omega)))
              | (at_delete; refine wpList_delete_own _ rfl _ _ 39 3 rfl 190 K3 Tryz.underlying39 RW g n _ rfl hfk2 _ _ rfl hkey ?_; intro w3 hown3 hturn; go_frame)
              | go_in)
            rw [fk_go (K3.key hkey) hcame hpd] at hown3
            have hrg2 := (((hrg1.kept hgA (by simp) (by simp)).kept hgB (by simp) (by simp)).kept hgrow2 (ob b (by omega)) (ob _ (Nat.le_refl _))).kept hturn.grown (fun e => by have := Option.some.inj e; omega) (fun e => by have := Option.some.inj e; omega)
            have t := hturn.grown
            have s2 := hgrow2.size
            have s3 := t.size
            have tb : ∀ k, k < w2.heap.size → k ≠ g → w3.heap[k]? = w2.heap[k]? := fun k hk e => t.block k hk (fun h => e (Option.some.inj h))
            refine ⟨⟨_, cnt1, zs ++ [z], hrg2, hown3, ?_, by simp only [List.length_append, List.length_singleton]; omega, ?_, ?_, ?_, ?_, by omega⟩, by rw [hrg2.left_eq, hrg.left_eq]; exact hlt⟩
            · rw [List.length_append, List.map_append]
              exact hown'.kept t (.inr fun e => by have := (hown'.lt _ e).1; omega)
            · exact (tb _ (by omega) (by omega)).trans ((hgrow2.block _ (by omega) (ob _ (by omega))).trans (kept_alloc (kept_alloc e1)))
            · exact (tb _ (by omega) (by omega)).trans ((hgrow2.block _ (by omega) (ob _ (by omega))).trans (kept_alloc (kept_alloc e2)))
            · exact (tb _ (by omega) hqg).trans f3
            · exact (((hgw1.andThen hgA (fun j hj => by cases hj)).andThen hgB (fun j hj => by cases hj)).andThen hgrow2 (fun j hj => .inl (by have := (hrow.lt j hj).1; omega))).andThen t (fun j hj => .inl (by cases hj; omega))
        · have hpd : pdW l (.int .i64 z) (.held (.agg #[.map m, .int .i64 p])) = false := by simp [pdW, hp]
          go_wp2
          exact stay hpd
  clear hK
  have g1 := World.grownBy_alloc w (.cells #[.map (some b), .int .i64 l] 41) none
  have g2 := g1.andThen (World.grownBy_alloc _ (.cells #[.map none, .int .i64 0] 41) none) (fun j hj => by cases hj)
  go_region_with (go_at_call 74; refine (Go.Proofs.AnyW.maps_Clone Tryz.mclone79 b es c _ ?_).mono ?_; (repeat (first | exact hb | apply kept_alloc | apply kept_drew)); rintro e w' ⟨rfl, rfl⟩)
  all_goals first
    | exact fin (w.heap.size + 1 + 1) (w.heap.size + 1 + 1 + 1) _ (kept_drew (kept_alloc (kept_alloc (kept_alloc (new_at rfl))))) (kept_drew (kept_alloc (kept_alloc (new_at (by simp))))) (kept_drew (new_at (by simp))) (kept_drew (kept_alloc (new_at (by simp)))) (by omega) (by omega) (by omega)
        (grown_drew ((g2.andThen (World.grownBy_alloc _ _ none) (fun j hj => by cases hj)).andThen (World.grownBy_alloc _ _ none) (fun j hj => by cases hj)))
    | exact fin (w.heap.size + 1 + 1 + 1) (w.heap.size + 1 + 1) _ (kept_drew (kept_alloc (kept_alloc (kept_alloc (new_at rfl))))) (kept_drew (kept_alloc (kept_alloc (new_at (by simp))))) (kept_drew (kept_alloc (new_at (by simp)))) (kept_drew (new_at (by simp))) (by omega) (by omega) (by omega)
        (grown_drew ((g2.andThen (World.grownBy_alloc _ _ none) (fun j hj => by cases hj)).andThen (World.grownBy_alloc _ _ none) (fun j hj => by cases hj)))
end Go.Proofs.YtbmiedinclieaaaGreatDoor

namespace Go.Proofs.YtbmiedinclieaaaGreatDoor
open Go.Clo

theorem key_litI {u : Nat} (h : u ≤ 1000000) : keyOf Tryz.prog 3 (.int .i64 (u : Int)) = some (.int .i64 (u : Int)) :=
  Go.Maps.keyOf_int_mk Tryz.underlying3 (by
    have e1 : IntKind.i64.min = -9223372036854775808 := rfl
    have e2 : IntKind.i64.max = 9223372036854775807 := rfl
    simp [Lit.wf, e1, e2]
    omega)
theorem ver_real {F : FM} {d p : Nat} {v' : Value} (hv : VR F (verV d p) v') : ∃ mb, v' = .agg #[.map mb, .int .i64 (p : Int)] := by
  unfold verV at hv
  cases hv with
  | @agg _ x' h1 h2 =>
    have hvl : VL F [.map (some d), .int .i64 (p : Int)] x'.toList := VL.ofArr (x := ⟨[.map (some d), .int .i64 (p : Int)]⟩) h1 h2
    generalize hl : x'.toList = l at hvl
    cases hvl with
    | cons g1 hvl =>
    cases hvl with
    | cons g2 hvl =>
    cases hvl
    cases g2
    cases g1 with
    | @map _ t hF =>
    exact ⟨some t.blk, by rw [← Array.toArray_toList (xs := x'), hl]⟩
theorem uniq : ∀ {l : List MapEntry}, (l.map (·.key)).Nodup → ∀ {x y : MapEntry}, x ∈ l → y ∈ l → x.key = y.key → x = y
  | [], _, x, y, hx, _, _ => by cases hx
  | a :: l, h, x, y, hx, hy, e => by
    rw [List.map_cons, List.nodup_cons] at h
    rcases List.mem_cons.1 hx with hx1 | hx1 <;> rcases List.mem_cons.1 hy with hy1 | hy1
    · rw [hx1, hy1]
    · exact absurd (List.mem_map.2 ⟨y, hy1, by rw [← e, hx1]⟩) h.1
    · exact absurd (List.mem_map.2 ⟨x, hx1, by rw [e, hy1]⟩) h.1
    · exact uniq h.2 hx1 hy1 e
theorem rd_same {y : MapEntry} {u : Nat} {v : Value} (hy : Go.WideElems.rd Tryz.prog 3 RW y = some (.int .i64 (u : Int), .held v)) : y.key = kN u ∧ y.val = v := by
  obtain ⟨z, e1, e2, _⟩ := Maps.keyOf_int_inv Tryz.underlying3 (Go.WideElems.rd_key hy)
  obtain ⟨⟨zy, py⟩, hzy, hey⟩ := Go.WideElems.rd_val hy
  obtain ⟨_, _, _, e3⟩ := RW_inv hzy
  simp only [Lit.int.injEq, true_and] at e2
  simp only at hey
  rw [e3] at hey
  rw [e1, ← e2]
  exact ⟨rfl, by simpa using hey.symm⟩
def entK (m c : Nat → Nat) (u : Nat) : MapEntry := ⟨kN u, verV (m u) (c u), unb⟩
set_option maxHeartbeats 1000000 in
theorem collect_ok : CollectOK := by
  intro r l ks m c H nx hm hr hnd hlen hk hc hl
  obtain ⟨es, clk, hg, h2, h3⟩ := hm
  refine ⟨.tuple ⟨[.agg ⟨[.map (some nx), .int .i64 (l : Int)]⟩, poison]⟩, hs H nx (some (.map ((ks.filter fun v => decide (0 < c v) || decide (v = l)).map (entK m c)) unb)), nx + 1, ⟨⟨_, _, Tryz.func32, rfl, by kernel_rfl⟩, fun F args' w hh hv => ?_⟩, nx, poison, Nat.le_refl _, by omega, rfl, ?_, (Ext.refl _ _).new _ (Nat.le_refl _) (by omega)⟩
  rotate_left
  · refine ⟨_, _, getH_same _ _ _, by rw [List.length_map], fun j e v he hv => ?_⟩
    rw [List.getElem?_map, hv] at he
    simp only [Option.map_some, Option.some.injEq] at he
    subst he
    exact ⟨rfl, rfl⟩
  cases hv with
  | cons hv0 hv1 =>
  cases hv1
  cases hv0 with
  | @agg _ x' h1 h2' =>
  have hvl : VL F [.map (some r), .int .i64 (l : Int)] x'.toList := VL.ofArr (x := ⟨[.map (some r), .int .i64 (l : Int)]⟩) h1 h2'
  generalize hxl : x'.toList = xl at hvl
  cases hvl with
  | cons g1 hvl =>
  cases hvl with
  | cons g2 hvl =>
  cases hvl
  cases g2
  cases g1 with
  | @map _ t hF =>
  have hx' : x' = #[.map (some t.blk), .int .i64 (l : Int)] := by rw [← Array.toArray_toList (xs := x'), hxl]
  subst hx'
  obtain ⟨hb0, es', clk', hw, hcl, hms, hst⟩ := hh.hb.get hF hg
  have hlenE : es'.toList.length = ks.length := by rw [← hms.len, h2]
  have ent : ∀ x ∈ es'.toList, ∃ u mb, u ∈ ks ∧ x.key = kN u ∧ x.val = .agg #[.map mb, .int .i64 (c u : Int)] ∧ VR F (verV (m u) (c u)) x.val := by
    intro x hx
    obtain ⟨e, he, hek⟩ := hms.bwd x hx
    obtain ⟨j, hj⟩ := List.mem_iff_getElem?.1 he
    obtain ⟨u, hu⟩ := ent_at h2 hj
    obtain ⟨k1, k2⟩ := h3 j e u hj hu
    obtain ⟨_, e2, he2, hk2, hvr, _⟩ := hms.fwd e he
    have : e2 = x := uniq hms.nd' he2 hx (by rw [hk2, hek])
    subst this
    rw [k2] at hvr
    obtain ⟨mb, hmb⟩ := ver_real hvr
    exact ⟨u, mb, List.mem_of_getElem? hu, by rw [← hek, k1], hmb, hvr⟩
  have ent2 : ∀ u ∈ ks, ∃ x ∈ es'.toList, x.key = kN u := by
    intro u hu
    obtain ⟨j, hj⟩ := List.mem_iff_getElem?.1 hu
    have hjl := (List.getElem?_eq_some_iff.1 hj).1
    have hje : es[j]? = some es[j] := List.getElem?_eq_getElem (by omega)
    obtain ⟨_, e2, he2, hk2, _⟩ := hms.fwd _ (List.mem_of_getElem? hje)
    exact ⟨e2, he2, by rw [hk2, (h3 j _ u hje hj).1]⟩
  have rdE : ∀ (x : MapEntry) (u : Nat) (mb : Option Nat), u ∈ ks → x.key = kN u → x.val = .agg #[.map mb, .int .i64 (c u : Int)] → Go.WideElems.rd Tryz.prog 3 RW x = some (.int .i64 (u : Int), .held x.val) := by
    intro x u mb hu hk1 hv1
    unfold Go.WideElems.rd
    rw [hk1, hv1]
    unfold kN
    rw [key_litI (hk u hu)]; rfl
  have fit : Go.WideElems.Fit Tryz.prog 3 RW es' clk' := ⟨by unfold maxLen; rw [Array.length_toList] at hlenE; omega, hst, fun x hx => let ⟨u, mb, hu, k1, v1, _⟩ := ent x hx; ⟨_, rdE x u mb hu k1 v1⟩⟩
  let Ds : DataW Value := .map ((es'.toList.map (Go.WideElems.rg Tryz.prog 3 RW)).foldr DataW.insert [])
  have own : ∀ W : World, ∀ g, W.heap[g]? = some (.map es' clk') → W.ownsMap Tryz.prog 3 RW g es'.size Ds := fun W g h => ⟨es', clk', h, fit, Nat.le_refl _, rfl⟩
  have hsz : Go.Maps.size Ds = es'.size := by show ((es'.toList.map _).foldr DataW.insert []).length = _; exact Go.length_read es'
  refine (collect_w t.blk es'.size (l : Int) Ds w es' clk' hw (own w _ hw) own (by rw [hsz]; rw [Array.length_toList] at hlenE; omega)).mono fun e w' ⟨g, rv, he, hgs, hown, hbl⟩ => ?_
  obtain ⟨eo, co, hwo, fo, hso, hDo⟩ := hown
  have hperm : (eo.toList.map (Go.WideElems.rg Tryz.prog 3 RW)).Perm ((es'.toList.map (Go.WideElems.rg Tryz.prog 3 RW)).filter fun p => !pdW (l : Int) p.1 p.2) := by
    have e1 : ((es'.toList.map (Go.WideElems.rg Tryz.prog 3 RW)).foldr DataW.insert []).filter (fun p => !pdW (l : Int) p.1 p.2) = (eo.toList.map (Go.WideElems.rg Tryz.prog 3 RW)).foldr DataW.insert [] := by
      have := hDo; simp only [Ds, Lib.deleteFuncD, DataW.map.injEq] at this; exact this
    have p1 := (Go.WideShapes.sorted_perm (es'.toList.map (Go.WideElems.rg Tryz.prog 3 RW))).filter (fun p => !pdW (l : Int) p.1 p.2)
    have p2 := Go.WideShapes.sorted_perm (eo.toList.map (Go.WideElems.rg Tryz.prog 3 RW))
    rw [← e1] at p2
    exact p2.symm.trans p1
  have pd : ∀ (u : Nat) (mb : Option Nat), (!pdW (l : Int) (.int .i64 (u : Int)) (.held (.agg #[.map mb, .int .i64 (c u : Int)]))) = (decide (0 < c u) || decide (u = l)) := by
    intro u mb
    have e1 : pdW (l : Int) (.int .i64 (u : Int)) (.held (.agg #[.map mb, .int .i64 (c u : Int)])) = (decide ((c u : Int) = 0) && !decide ((u : Int) = (l : Int))) := rfl
    rw [e1, Bool.eq_iff_iff]
    simp
    omega
  have bwd : ∀ y ∈ eo.toList, ∃ u, u ∈ ks.filter (fun v => decide (0 < c v) || decide (v = l)) ∧ y.key = kN u ∧ VR F (verV (m u) (c u)) y.val := by
    intro y hy
    obtain ⟨yy, hyy⟩ := fo.reads y hy
    have hm : Go.WideElems.rg Tryz.prog 3 RW y ∈ (es'.toList.map (Go.WideElems.rg Tryz.prog 3 RW)).filter fun p => !pdW (l : Int) p.1 p.2 := hperm.mem_iff.1 (List.mem_map.2 ⟨y, hy, rfl⟩)
    obtain ⟨hm1, hm2⟩ := List.mem_filter.1 hm
    obtain ⟨x, hx, hxr⟩ := List.mem_map.1 hm1
    obtain ⟨u, mb, hu, k1, v1, hvr⟩ := ent x hx
    have hrx := rdE x u mb hu k1 v1
    rw [Go.WideElems.rg_of hyy, Go.WideElems.rg_of hrx] at hxr
    rw [Go.WideElems.rg_of hyy, ← hxr, v1] at hm2
    rw [← hxr] at hyy
    obtain ⟨q1, q2⟩ := rd_same hyy
    exact ⟨u, List.mem_filter.2 ⟨hu, by rw [← pd u mb]; exact hm2⟩, q1, by rw [q2]; exact hvr⟩
  have fwd : ∀ u ∈ ks.filter (fun v => decide (0 < c v) || decide (v = l)), ∃ y ∈ eo.toList, y.key = kN u ∧ VR F (verV (m u) (c u)) y.val := by
    intro u hu
    obtain ⟨hu1, hu2⟩ := List.mem_filter.1 hu
    obtain ⟨x, hx, hxk⟩ := ent2 u hu1
    obtain ⟨u2, mb, hu3, k1, v1, hvr⟩ := ent x hx
    have e : u2 = u := kN_inj (k1.symm.trans hxk)
    subst e
    have hrx := rdE x u2 mb hu1 k1 v1
    have hm : Go.WideElems.rg Tryz.prog 3 RW x ∈ eo.toList.map (Go.WideElems.rg Tryz.prog 3 RW) := hperm.mem_iff.2 (List.mem_filter.2 ⟨List.mem_map.2 ⟨x, hx, rfl⟩, by rw [Go.WideElems.rg_of hrx, v1, pd u2 mb]; exact hu2⟩)
    obtain ⟨y, hy, hyr⟩ := List.mem_map.1 hm
    obtain ⟨yy, hyy⟩ := fo.reads y hy
    rw [Go.WideElems.rg_of hyy, Go.WideElems.rg_of hrx] at hyr
    rw [hyr] at hyy
    obtain ⟨q1, q2⟩ := rd_same hyy
    exact ⟨y, hy, q1, by rw [q2]; exact hvr⟩
  have hfresh : F nx = none := hh.fresh nx (Nat.le_refl _)
  have hle := upd_le hfresh ⟨g, 0, 0, 0, 0⟩
  have hnk : (((ks.filter fun v => decide (0 < c v) || decide (v = l)).map (entK m c)).map (·.key)).Nodup := by
    rw [List.map_map]
    exact List.Pairwise.map _ (fun a b hab e => hab (kN_inj e)) (hnd.filter _)
  have hml : ML (upd F nx ⟨g, 0, 0, 0, 0⟩) ((ks.filter fun v => decide (0 < c v) || decide (v = l)).map (entK m c)) eo.toList := by
    refine ⟨hnk, fo.stamped.2.2, ?_, ⟨4, fun e he => ?_, fun e he => ?_⟩, fun e he => ?_, fun e he => ?_⟩
    · have hp : (((ks.filter fun v => decide (0 < c v) || decide (v = l)).map (entK m c)).map (·.key)).Perm (eo.toList.map (·.key)) := by
        refine (List.perm_ext_iff_of_nodup hnk fo.stamped.2.2).2 fun k => ⟨fun hk => ?_, fun hk => ?_⟩
        · obtain ⟨e, he, rfl⟩ := List.mem_map.1 hk
          obtain ⟨u, hu, rfl⟩ := List.mem_map.1 he
          obtain ⟨y, hy, q1, _⟩ := fwd u hu
          exact List.mem_map.2 ⟨y, hy, q1⟩
        · obtain ⟨y, hy, rfl⟩ := List.mem_map.1 hk
          obtain ⟨u, hu, q1, _⟩ := bwd y hy
          exact List.mem_map.2 ⟨_, List.mem_map.2 ⟨u, hu, rfl⟩, q1.symm⟩
      have := hp.length_eq
      simpa [List.length_map] using this
    · obtain ⟨u, _, rfl⟩ := List.mem_map.1 he; rfl
    · obtain ⟨u, _, q1, _⟩ := bwd e he
      rw [q1]; rfl
    · obtain ⟨u, hu, rfl⟩ := List.mem_map.1 he
      obtain ⟨y, hy, q1, q2⟩ := fwd u hu
      exact ⟨rfl, y, hy, q1, q2.mono hle, .inr rfl⟩
    · obtain ⟨u, hu, q1, _⟩ := bwd e he
      exact ⟨_, List.mem_map.2 ⟨u, hu, rfl⟩, q1.symm⟩
  refine ⟨_, upd F nx ⟨g, 0, 0, 0, 0⟩, he, VR.tuple' (.cons (VR.agg' (.cons (VR.map (upd_same F nx ⟨g, 0, 0, 0, 0⟩)) (.cons (.int _ _) .nil))) (.cons (.any _) .nil)), Stp.name hh rfl hbl.os hbl.tape hbl.output hbl.size (fun k hk => hbl.block k hk) ⟨rfl, eo, co, hwo, .inr rfl, hml, fo.stamped⟩ hgs⟩
end Go.Proofs.YtbmiedinclieaaaGreatDoor
