/-
  (views.Views).Names and (catalog.Database).names: a new slice that holds the map's keys, sorted; nil where there is none.
-/
import Derived.Shelf.Abstract
import Derived.WalkKit
import Derived.OwnWalkIn
import Derived.TacticsInMore
import Derived.LoopNIn
import Derived.LoopIn
import Derived.Test.YtchmiblahedkcaaGreatDoorB14
import Derived.Test.YtchmiblahedkcaaGreatDoorB10
set_option linter.all false
namespace Go.Proofs.YtchmiblahedkcaaGreatDoor
open Go.RowKit Go.Shelf Go.Sort Go.Maps

attribute [local go_sem] Oper.semAt_some

/-- How an element reads: not at all. -/
noncomputable def RU : Value → Option (DataW Unit × List MemPlace) := fun _ => some (.nil, [])
theorem key_lit {s : ByteArray} (h : s.size ≤ 1000) : keyOf Tryz.prog 9 (.string s) = some (.string s.data.toList) := by
  have : s.size ≤ maxLen := by unfold maxLen; omega
  simp [keyOf, Tryz.underlying9, mapKey, this]
theorem fitS {es : Array MapEntry} {c : Nat} (hst : MapKept.Stamped es c) (hk : ∀ e ∈ es.toList, ∃ s : ByteArray, e.key = .string s ∧ s.size ≤ 1000) (hsz : es.size ≤ 1000) : Go.WideElems.Fit Tryz.prog 9 RU es c :=
  ⟨by unfold maxLen; omega, hst, fun x hx => by
    obtain ⟨s, hs, hl⟩ := hk x hx
    exact ⟨(.string s.data.toList, .nil), by simp [Go.WideElems.rd, RU, hs, key_lit hl]⟩⟩
noncomputable def datum (es : Array MapEntry) : DataW Unit := .map ((es.toList.map (Go.WideElems.rg Tryz.prog 9 RU)).foldr DataW.insert [])
theorem owns_of {w : World} {b : Nat} {es : Array MapEntry} {c : Nat} (hb : w.heap[b]? = some (.map es c)) (hst : MapKept.Stamped es c) (hk : ∀ e ∈ es.toList, ∃ s : ByteArray, e.key = .string s ∧ s.size ≤ 1000) (hsz : es.size ≤ 1000) :
    w.ownsMap Tryz.prog 9 RU b es.size (datum es) := ⟨es, c, hb, fitS hst hk hsz, Nat.le_refl _, rfl⟩
theorem datum_size (es : Array MapEntry) : Maps.size (datum es) = es.size := by
  simp only [datum, Maps.size]
  exact Go.length_read es


theorem sorts_all (m : Nat) : AnyZ.SortsIn Tryz.prog Tryz.sorted27_ren Fence.wide m :=
  ⟨fun blk off cap ss W hH hblk hsz => callsIn_wide.2 (AnyM.slices_Sort_string Tryz.sort57 blk off cap ss W hH hblk hsz),
   fun p cap W => callsIn_wide.2 (AnyM.slices_Sort_string_none Tryz.sort57 p cap W)⟩

/-- What a call of Names answers, in the world. -/
def NamesW (w : World) (es : Array MapEntry) (e : Ending) (w' : World) : Prop := ∃ (v : Value) (ss : List (List UInt8)), e = .returned v ∧ ss.Perm (strKeys (datum es)) ∧
      w'.ownsRow w.heap.size 9 1 v ss.length ((ss.mergeSort (fun x y => decide (x ≤ y))).map encStr) ∧ (v = .slice none 0 0 ↔ ss = []) ∧ Below w.heap.size w w'
set_option maxRecDepth 100000 in
set_option maxHeartbeats 1000000 in
theorem names14_w (dv : Value) (b : Nat) (es : Array MapEntry) (c : Nat) (w : World) (hb : w.heap[b]? = some (.map es c)) (hst : MapKept.Stamped es c) (hk : ∀ e ∈ es.toList, ∃ s : ByteArray, e.key = .string s ∧ s.size ≤ 1000) (hsz : es.size ≤ 1000) :
    Calls Tryz.prog 14 #[.agg #[dv, .map (some b)]] w (NamesW w es) := by
  refine (callsIn_wide (n := 6)).1 ?_
  have hbl : b < w.heap.size := (Array.getElem?_eq_some_iff.1 hb).1
  have hmax : Maps.size (datum es) ≤ maxLen := by rw [datum_size]; unfold maxLen; omega
  have hbytes : Maps.size (datum es) * 16 ≤ 140737488355328 := by rw [datum_size]; omega
  have cK : ∀ mb W, CallsIn Fence.wide 5 Tryz.prog 28 #[.map mb] W fun e w' => e = .returned (.func (.func 58) #[] #[.pointer (some ⟨W.heap.size, 0, none⟩)]) ∧ w' = W.alloc (.cells #[.map mb] 48) := fun mb W => AnyZ.keys_in Tryz.keys28 Fence.wide 5 trivial rfl mb W
  have cS : ∀ W : World, W.heap[b]? = some (.map es c) → CallsIn Fence.wide 5 Tryz.prog 27 #[.func (.func 58) #[] #[.pointer (some ⟨W.heap.size, 0, none⟩)]] (W.alloc (.cells #[.map (some b)] 48)) fun e w' => ∃ (v : Value) (ss : List (List UInt8)), e = .returned v ∧ ss.Perm (strKeys (datum es)) ∧
      w'.ownsRow (W.alloc (.cells #[.map (some b)] 48)).heap.size 9 1 v ss.length ((ss.mergeSort (fun x y => decide (x ≤ y))).map encStr) ∧ (v = .slice none 0 0 ↔ ss = []) ∧ Below (W.alloc (.cells #[.map (some b)] 48)).heap.size (W.alloc (.cells #[.map (some b)] 48)) w' := by
    intro W hW
    have hWl : b < W.heap.size := (Array.getElem?_eq_some_iff.1 hW).1
    have hseq : SeqGives Fence.wide 2 Tryz.prog 58 #[.pointer (some ⟨W.heap.size, 0, none⟩)] encStr (fun ss => ss.Perm (strKeys (datum es))) (Maps.size (datum es)) (W.alloc (.cells #[.map (some b)] 48)) :=
      AnyZ.keys_gives (ρ := Tryz.keys28_ren) { Tryz.keys28 with } Fence.wide _ trivial rfl (by omega) W.heap.size b es.size (datum es) _ (by simp) (by simp) (owns_of ((Below.heap_alloc _ _ b hWl).trans hW) hst hk hsz)
    exact AnyZ.sorted_in Tryz.sorted27 Fence.wide 5 trivial trivial trivial trivial rfl (by omega) (sorts_all _) (enters_of Tryz.func57 (by kernel_rfl) rfl) 58 #[.pointer (some ⟨W.heap.size, 0, none⟩)] trivial (enters_of Tryz.func58 (by kernel_rfl) rfl) _ _ hmax hbytes _ hseq
  have cS1 := cS (w.alloc (.cells #[dv, .map (some b)] 50)) ((Below.heap_alloc _ _ b hbl).trans hb)
  simp only [World.size_alloc] at cS1
  clear cS hmax hbytes hsz hk hst
  have hfK : Fence.wide.fn 28 := trivial
  have hfS : Fence.wide.fn 27 := trivial
  refine callsIn_of_wp Tryz.func14 rfl trivial ?_ rfl
  simp only [Tryz.ntmps14, List.size_toArray, List.length_cons, List.length_nil, Nat.reduceAdd, Nat.reduceSub, Array.replicate_succ, Array.replicate_zero, List.push_toArray, List.append_toArray, List.nil_append, List.cons_append]
  gi_wp2_with (first
    | (gi_at_call 28; refine (cK _ _).mono ?_; rintro e w' ⟨rfl, rfl⟩)
    | (gi_at_call 27; refine cS1.mono ?_; rintro e w' ⟨v, ss, rfl, hS, hrow, hnil, hb2⟩))
  go_ret
  exact ⟨v, ss, rfl, hS, ownsRow_base_a hrow (by omega), hnil, (((Below.refl _ w).alloc (Nat.le_refl _) _).alloc (by simp) _).trans (hb2.mono (by omega))⟩
set_option maxRecDepth 100000 in
set_option maxHeartbeats 1000000 in
theorem names46_w (b : Nat) (es : Array MapEntry) (c : Nat) (w : World) (hb : w.heap[b]? = some (.map es c)) (hst : MapKept.Stamped es c) (hk : ∀ e ∈ es.toList, ∃ s : ByteArray, e.key = .string s ∧ s.size ≤ 1000) (hsz : es.size ≤ 1000) :
    Calls Tryz.prog 46 #[.agg #[.map (some b)]] w (NamesW w es) := by
  refine (callsIn_wide (n := 6)).1 ?_
  have hbl : b < w.heap.size := (Array.getElem?_eq_some_iff.1 hb).1
  have hmax : Maps.size (datum es) ≤ maxLen := by rw [datum_size]; unfold maxLen; omega
  have hbytes : Maps.size (datum es) * 16 ≤ 140737488355328 := by rw [datum_size]; omega
  have cK : ∀ mb W, CallsIn Fence.wide 5 Tryz.prog 93 #[.map mb] W fun e w' => e = .returned (.func (.func 151) #[] #[.pointer (some ⟨W.heap.size, 0, none⟩)]) ∧ w' = W.alloc (.cells #[.map mb] 24) := fun mb W => AnyZ.keys_in Tryz.keys93 Fence.wide 5 trivial rfl mb W
  have cS : ∀ W : World, W.heap[b]? = some (.map es c) → CallsIn Fence.wide 5 Tryz.prog 27 #[.func (.func 151) #[] #[.pointer (some ⟨W.heap.size, 0, none⟩)]] (W.alloc (.cells #[.map (some b)] 24)) fun e w' => ∃ (v : Value) (ss : List (List UInt8)), e = .returned v ∧ ss.Perm (strKeys (datum es)) ∧
      w'.ownsRow (W.alloc (.cells #[.map (some b)] 24)).heap.size 9 1 v ss.length ((ss.mergeSort (fun x y => decide (x ≤ y))).map encStr) ∧ (v = .slice none 0 0 ↔ ss = []) ∧ Below (W.alloc (.cells #[.map (some b)] 24)).heap.size (W.alloc (.cells #[.map (some b)] 24)) w' := by
    intro W hW
    have hWl : b < W.heap.size := (Array.getElem?_eq_some_iff.1 hW).1
    have hseq : SeqGives Fence.wide 2 Tryz.prog 151 #[.pointer (some ⟨W.heap.size, 0, none⟩)] encStr (fun ss => ss.Perm (strKeys (datum es))) (Maps.size (datum es)) (W.alloc (.cells #[.map (some b)] 24)) :=
      AnyZ.keys_gives (ρ := Tryz.keys93_ren) { Tryz.keys93 with } Fence.wide _ trivial rfl (by omega) W.heap.size b es.size (datum es) _ (by simp) (by simp) (owns_of ((Below.heap_alloc _ _ b hWl).trans hW) hst hk hsz)
    exact AnyZ.sorted_in Tryz.sorted27 Fence.wide 5 trivial trivial trivial trivial rfl (by omega) (sorts_all _) (enters_of Tryz.func57 (by kernel_rfl) rfl) 151 #[.pointer (some ⟨W.heap.size, 0, none⟩)] trivial (enters_of Tryz.func151 (by kernel_rfl) rfl) _ _ hmax hbytes _ hseq
  have cS1 := cS (w.alloc (.cells #[.map (some b)] 26)) ((Below.heap_alloc _ _ b hbl).trans hb)
  simp only [World.size_alloc] at cS1
  clear cS hmax hbytes hsz hk hst
  have hfK : Fence.wide.fn 93 := trivial
  have hfS : Fence.wide.fn 27 := trivial
  refine callsIn_of_wp Tryz.func46 rfl trivial ?_ rfl
  simp only [Tryz.ntmps46, List.size_toArray, List.length_cons, List.length_nil, Nat.reduceAdd, Nat.reduceSub, Array.replicate_succ, Array.replicate_zero, List.push_toArray, List.append_toArray, List.nil_append, List.cons_append]
  gi_wp2_with (first
    | (gi_at_call 93; refine (cK _ _).mono ?_; rintro e w' ⟨rfl, rfl⟩)
    | (gi_at_call 27; refine cS1.mono ?_; rintro e w' ⟨v, ss, rfl, hS, hrow, hnil, hb2⟩))
  go_ret
  exact ⟨v, ss, rfl, hS, ownsRow_base_a hrow (by omega), hnil, (((Below.refl _ w).alloc (Nat.le_refl _) _).alloc (by simp) _).trans (hb2.mono (by omega))⟩
set_option maxRecDepth 100000 in
set_option maxHeartbeats 1000000 in
theorem names14_nil (dv : Value) (w : World) : Calls Tryz.prog 14 #[.agg #[dv, .map none]] w fun e w' => e = .returned (.slice none 0 0) ∧ Below w.heap.size w w' := by
  refine (callsIn_wide (n := 6)).1 ?_
  have cK : ∀ mb W, CallsIn Fence.wide 5 Tryz.prog 28 #[.map mb] W fun e w' => e = .returned (.func (.func 58) #[] #[.pointer (some ⟨W.heap.size, 0, none⟩)]) ∧ w' = W.alloc (.cells #[.map mb] 48) := fun mb W => AnyZ.keys_in Tryz.keys28 Fence.wide 5 trivial rfl mb W
  have cS : ∀ W : World, CallsIn Fence.wide 5 Tryz.prog 27 #[.func (.func 58) #[] #[.pointer (some ⟨W.heap.size, 0, none⟩)]] (W.alloc (.cells #[.map none] 48)) fun e w' => ∃ (v : Value) (ss : List (List UInt8)), e = .returned v ∧ ss = [] ∧
      w'.ownsRow (W.alloc (.cells #[.map none] 48)).heap.size 9 1 v ss.length ((ss.mergeSort (fun x y => decide (x ≤ y))).map encStr) ∧ (v = .slice none 0 0 ↔ ss = []) ∧ Below (W.alloc (.cells #[.map none] 48)).heap.size (W.alloc (.cells #[.map none] 48)) w' := by
    intro W
    have hseq : SeqGives Fence.wide 2 Tryz.prog 58 #[.pointer (some ⟨W.heap.size, 0, none⟩)] encStr (fun ss : List (List UInt8) => ss = []) 0 (W.alloc (.cells #[.map none] 48)) :=
      AnyZ.keys_gives_nil (ρ := Tryz.keys28_ren) { Tryz.keys28 with } Fence.wide _ trivial rfl W.heap.size _ (by simp) (by simp)
    exact AnyZ.sorted_in Tryz.sorted27 Fence.wide 5 trivial trivial trivial trivial rfl (by omega) (sorts_all _) (enters_of Tryz.func57 (by kernel_rfl) rfl) 58 #[.pointer (some ⟨W.heap.size, 0, none⟩)] trivial (enters_of Tryz.func58 (by kernel_rfl) rfl) _ 0 (Nat.zero_le _) (by omega) _ hseq
  have cS1 := cS (w.alloc (.cells #[dv, .map none] 50))
  simp only [World.size_alloc] at cS1
  clear cS
  have hfK : Fence.wide.fn 28 := trivial
  have hfS : Fence.wide.fn 27 := trivial
  refine callsIn_of_wp Tryz.func14 rfl trivial ?_ rfl
  simp only [Tryz.ntmps14, List.size_toArray, List.length_cons, List.length_nil, Nat.reduceAdd, Nat.reduceSub, Array.replicate_succ, Array.replicate_zero, List.push_toArray, List.append_toArray, List.nil_append, List.cons_append]
  gi_wp2_with (first
    | (gi_at_call 28; refine (cK _ _).mono ?_; rintro e w' ⟨rfl, rfl⟩)
    | (gi_at_call 27; refine cS1.mono ?_; rintro e w' ⟨v, ss, rfl, rfl, hrow, hnil, hb2⟩; obtain rfl : v = .slice none 0 0 := hnil.2 rfl))
  go_ret
  exact ⟨rfl, (((Below.refl _ w).alloc (Nat.le_refl _) _).alloc (by simp) _).trans (hb2.mono (by omega))⟩
end Go.Proofs.YtchmiblahedkcaaGreatDoor
