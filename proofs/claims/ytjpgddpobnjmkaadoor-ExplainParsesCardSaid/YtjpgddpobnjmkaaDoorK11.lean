/-
  The library's functions that chapter 56 calls, as claims on the abstract heap: strings.Join, strings.Index and strings.Count at one byte, slices.Sorted over slices.Values.
-/
import Derived.Test.YtjpgddpobnjmkaaDoorK5
import Derived.Test.YtjpgddpobnjmkaaDoorK10
set_option linter.unusedSimpArgs false
set_option linter.unusedVariables false
set_option linter.unusedSectionVars false
namespace Go.Proofs.YtjpgddpobnjmkaaDoor
open Go.Clo

theorem enters30 : Go.Clo.Enters Tryd.prog 30 := ⟨_, _, Tryd.func30, rfl, by kernel_rfl⟩
theorem enters33 : Go.Clo.Enters Tryd.prog 33 := ⟨_, _, Tryd.func33, rfl, by kernel_rfl⟩
theorem enters46 : Go.Clo.Enters Tryd.prog 46 := ⟨_, _, Tryd.func46, rfl, by kernel_rfl⟩
theorem enters47 : Go.Clo.Enters Tryd.prog 47 := ⟨_, _, Tryd.func47, rfl, by kernel_rfl⟩

theorem count46 (s : ByteArray) (c : UInt8) (H : Heap) (nx : Nat) : Ans Tryd.prog 46 [.string s, .string ⟨#[c]⟩] H nx fun r H' nx' => .int .i64 (Lib.countByte s.data.toList c) = r ∧ H = H' ∧ nx = nx' :=
  ans_flat enters46 rfl rfl (fun w => Tryd.strings_Count_one s c w) H nx
theorem index47 (s : ByteArray) (c : UInt8) (H : Heap) (nx : Nat) : Ans Tryd.prog 47 [.string s, .string ⟨#[c]⟩] H nx fun r H' nx' => .int .i64 (Lib.indexByte s.data.toList c) = r ∧ H = H' ∧ nx = nx' :=
  ans_flat enters47 rfl rfl (fun w => Tryd.strings_Index_one s c w) H nx

/-- The parts, with the separator between them. -/
def joinS (xs : List ByteArray) (sep : ByteArray) : ByteArray := ⟨(Lib.join (xs.map (·.data.toList)) sep.data.toList).toArray⟩
theorem join33 (A : Option Addr) (xs : List ByteArray) (sep : ByteArray) (cap : Nat) (H : Heap) (nx : Nat) (hS : Sl H nx A (strs xs)) (h0 : 0 < xs.length) (hcap : xs.length ≤ cap) (hN : xs.length ≤ 1000000) (hlen : (joinS xs sep).size ≤ 1000000) :
    Ans Tryd.prog 33 [.slice A xs.length cap, .string sep] H nx fun r H' nx' => .string (joinS xs sep) = r ∧ H = H' ∧ nx = nx' := by
  refine ⟨_, H, nx, ⟨enters33, fun F args' w hh hl => ?_⟩, rfl, rfl, rfl⟩
  obtain ⟨b, o, row, rfl, hb, hrow, hget⟩ := hS.open (i := 0) (by rw [strs_length]; exact h0)
  cases hl with
  | cons ha hl =>
  cases hl with
  | cons hs hl =>
  cases hl
  cases hs
  obtain ⟨_, t, c', hF, rfl, hc⟩ := ha.slice_inv
  have hcells : ∀ (j : Nat) x, xs[j]? = some x → w.cell? ⟨t.blk, t.base + o + j, none⟩ = some (.string x) := fun j x hx => by
    obtain ⟨v', h1, h2⟩ := cell_of_sl hh hF hS (strs_get hx)
    cases h2
    exact h1
  have hcc : xs.length ≤ c' := by rcases hc with h | h <;> omega
  have hlen' : (Lib.join (xs.map (·.data.toList)) sep.data.toList).length ≤ 140737488355328 := by
    have : (joinS xs sep).size = (Lib.join (xs.map (·.data.toList)) sep.data.toList).length := by simp [joinS, ByteArray.size]
    omega
  refine (Tryd.strings_Join t.blk (t.base + o) c' xs sep w hcells (blk_of_sl hh hF hS (by rw [strs_length]; exact h0)) (by omega) hcc hlen').mono fun e w' ⟨he, hb⟩ => ?_
  exact ⟨_, F, he, .string _, Stp.below hh hb⟩

theorem sortedA (q : Nat) (A : Option Addr) (zs : List ByteArray) (cap : Nat) (H : Heap) (nx : Nat) (hq : getH H q = some (.cells [.slice A zs.length cap] 0)) (hqn : q < nx) (hS : Sl H nx A (strs zs)) (hA0 : Has H nx A) (hcap : A = none → cap = 0) (hlen : zs.length ≤ 1000) :
    Ans Tryd.prog 30 [.func (.func 40) ⟨[]⟩ ⟨[.pointer (some ⟨q, 0, none⟩)]⟩] H nx fun r H' nx' => Acc nx H' nx' 1 r zs.length (strs (sortS zs)) ∧ Ext H nx H' nx' := by
  have real : ∀ (F : FM) (args' : List Value) (w : World), HR F H nx w → VL F [.func (.func 40) ⟨[]⟩ ⟨[.pointer (some ⟨q, 0, none⟩)]⟩] args' →
      Calls Tryd.prog 30 args'.toArray w fun e w' => ∃ v, e = .returned v ∧ w'.ownsRow w.heap.size 9 1 v zs.length ((sortS zs).map Value.string) ∧ (zs = [] → v = .slice none 0 0) ∧ RowKit.Below w.heap.size w w' := by
    intro F args' w hh hl
    cases hl with
    | cons ha hl =>
    cases hl
    cases ha with
    | @func _ _ x' _ y' h1 _ h3 h4 =>
    obtain rfl : x' = #[] := by simpa using h1.symm
    obtain ⟨p, rfl⟩ : ∃ p, y' = #[p] := by
      have : y'.toList.length = 1 := by simpa using h3.symm
      match hy : y'.toList, this with
      | [p], _ => exact ⟨p, by rw [← Array.toArray_toList (xs := y'), hy]⟩
    obtain ⟨_, t, hF, rfl⟩ := (h4 0 _ _ rfl rfl).ptr_inv
    obtain ⟨c', e, hw, hsz, hts, hte, hle, hvl⟩ := hh.hb.get hF hq
    -- the box in the world
    obtain ⟨sv, hsv, hvr⟩ := hvl.some (i := 0) rfl
    rw [List.getElem?_take, if_pos (by simp), List.getElem?_drop, Array.getElem?_toList] at hsv
    have hcell : w.cell? ⟨t.blk, t.base + 0, none⟩ = some sv := by simp [World.cell?, hw]; simpa using hsv
    have hlt : t.blk < w.heap.size := (Array.getElem?_eq_some_iff.1 hw).1
    refine sorted30 t.blk (t.base + 0) sv zs hlen w hlt hcell ?_
    cases zs with
    | nil =>
      rcases hA0 with rfl | ⟨b, o, row, rfl, hb, hrow⟩
      · have := hvr.sliceN_inv
        rw [hcap rfl] at this
        exact .inl ⟨this, rfl⟩
      · obtain ⟨_, tt, cc, hF2, rfl, hc⟩ := hvr.slice_inv
        refine .inr ⟨tt.blk, tt.base + o, cc, rfl, ?_, fun j hj => by simp at hj⟩
        unfold rowOf at hrow
        cases hg : getH H b with
        | none => rw [hg] at hrow; cases hrow
        | some blk => exact (hh.hb.get hF2 hg).lt
    | cons z zs =>
      obtain ⟨b, o, row, rfl, hb, hrow, hget⟩ := hS.open (i := 0) (by simp [strs])
      obtain ⟨_, tt, cc, hF2, rfl, hc⟩ := hvr.slice_inv
      refine .inr ⟨tt.blk, tt.base + o, cc, rfl, blk_of_sl hh hF2 hS (by simp [strs]), fun j hj => ?_⟩
      obtain ⟨v', g1, g2⟩ := cell_of_sl hh hF2 hS (strs_get (List.getElem?_eq_getElem hj))
      cases g2
      rw [g1, List.getElem?_eq_getElem hj]; rfl
  by_cases hz : zs = []
  · subst hz
    refine ⟨.slice none 0 0, H, nx, ⟨enters30, fun F args' w hh hl => (real F args' w hh hl).mono fun e w' ⟨v, he, hrow, hnil, hb⟩ => ?_⟩, ⟨by simp [sortS, bytesOf, strs], .inl ⟨rfl, rfl⟩⟩, Ext.refl _ _⟩
    have := hnil rfl
    subst this
    exact ⟨_, F, he, .sliceN _ _, Stp.below hh hb⟩
  · have hpos : 0 < zs.length := List.length_pos_iff.2 hz
    have hsl : (strs (sortS zs)).length = zs.length := by simp [strs, sortS, bytesOf]
    refine ⟨.slice (some ⟨nx, 0, none⟩) zs.length zs.length, hs H nx (some (.cells (strs (sortS zs)) 1)), nx + 1, ⟨enters30, fun F args' w hh hl => (real F args' w hh hl).mono fun e w' ⟨v, he, hrow, hnil, hb⟩ => ?_⟩, ?_, (Ext.refl H nx).new _ (Nat.le_refl _) (by omega)⟩
    · rcases hrow.2 with ⟨_, h0⟩ | ⟨g, cp, cur, rfl, hg, hc, h1, _, h3, h4⟩
      · omega
      · obtain ⟨F', hvr, hst⟩ := Stp.row (xs := strs (sortS zs)) hh hb hg hc (by rw [hsl]; exact h1) (by simpa using h3) (by rw [hsl]; simpa [strs] using h4) (strs_flat _)
        rw [hsl] at hvr
        exact ⟨_, F', he, hvr, hst⟩
    · have := Acc.of_new H nx (strs (sortS zs))
      rw [hsl] at this
      exact this
end Go.Proofs.YtjpgddpobnjmkaaDoor
