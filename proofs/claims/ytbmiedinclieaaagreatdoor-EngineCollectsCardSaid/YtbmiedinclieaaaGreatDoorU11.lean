/-
  slices.Sorted of a map's keys (integers, strings) and maps.Keys, as the executor's oracles.
  Sorted keys of a map, and maps.Keys, over abstract heaps.
  The oracles of the sessions' closed runs, as functions of abstract heaps.
  checksum.Update: the remainder of bytes, nibble by nibble.
  The closures that planner.Make and planner.Run defer: where nothing panics they change nothing.
  Rows of plain cells in the world, as the oracles read them; bytes.Compare.
  The oracles' contracts.
  wal.value: a few bytes as a number.
  All oracles keep their contracts.
-/
import Derived.Shelf.Abstract
import Derived.Lib.SlKeysI
import Derived.Test.YtbmiedinclieaaaGreatDoorU10
import Derived.Test.YtbmiedinclieaaaGreatDoorU4
import Derived.Test.YtbmiedinclieaaaGreatDoorU6
import Derived.Lib.Bytealg
import Derived.Test.YtbmiedinclieaaaGreatDoorProg
import Derived.WalkKit
import Derived.OwnWalkIn
import Derived.TacticsInMore
import Derived.LoopNIn
import Derived.LoopIn
import Derived.Tactics
import Derived.Tactics2
import Derived.Recover
import Derived.Laws.Pointers
import Derived.Laws.Externs
import Derived.Shelf.Spec.SlicesGrow
import Derived.Test.YtbmiedinclieaaaGreatDoorU5
set_option linter.all false
namespace Go.Proofs.YtbmiedinclieaaaGreatDoor
open Go.RowKit Go.Shelf Go.Sort Go.Maps

/-- How an element reads: not at all. -/
noncomputable def RU : Value → Option (DataW Unit × List MemPlace) := fun _ => some (.nil, [])
noncomputable def datumK (k : TypeId) (es : Array MapEntry) : DataW Unit := .map ((es.toList.map (Go.WideElems.rg Tryz.prog k RU)).foldr DataW.insert [])
theorem datumK_size (k : TypeId) (es : Array MapEntry) : Maps.size (datumK k es) = es.size := by
  simp only [datumK, Maps.size]
  exact Go.length_read es
theorem owns_K {k : TypeId} {w : World} {b : Nat} {es : Array MapEntry} {c : Nat} (hb : w.heap[b]? = some (.map es c)) (hst : MapKept.Stamped es c) (hk : ∀ e ∈ es.toList, ∃ l, keyOf Tryz.prog k e.key = some l) (hsz : es.size ≤ 1000) :
    w.ownsMap Tryz.prog k RU b es.size (datumK k es) :=
  ⟨es, c, hb, ⟨by unfold maxLen; omega, hst, fun x hx => let ⟨l, hl⟩ := hk x hx; ⟨(l, .nil), by simp [Go.WideElems.rd, RU, hl]⟩⟩, Nat.le_refl _, rfl⟩

/-! Integers. -/
theorem key_int {x : Int} (h : (Lit.int .i64 x).wf = true) : keyOf Tryz.prog 3 (.int .i64 x) = some (.int .i64 x) := by
  simp [keyOf, Tryz.underlying3, mapKey, h]
theorem sorts_int (m : Nat) : AnyZI.SortsIn Tryz.prog Tryz.sorted39_ren Fence.wide m :=
  ⟨fun blk off cap ss W hH hblk hsz => callsIn_wide.2 (AnyM.slices_Sort_int Tryz.sort71 blk off cap ss W hH hblk hsz),
   fun p cap W => callsIn_wide.2 (AnyM.slices_Sort_int_none Tryz.sort71 p cap W)⟩
/-- What a sorted row of integers is. -/
def SortedI (w : World) (es : Array MapEntry) (e : Ending) (w' : World) : Prop := ∃ (v : Value) (ss : List Int), e = .returned v ∧ ss.Perm (intKeys (datumK 3 es)) ∧
      w'.ownsRow w.heap.size 3 1 v ss.length ((ss.mergeSort (fun x y => decide (x ≤ y))).map encZ) ∧ (v = .slice none 0 0 ↔ ss = []) ∧ Below w.heap.size w w'
theorem sortedI_w {ρ : Ren} (L : Go.Proofs.SlLaysZI.n10 Tryz.prog ρ) (h26 : ρ.t 26 = 3) (eg : ∀ args w, (callFunc (ρ.f 10) args).run Tryz.prog w = .ok (.enter (ρ.f 10) args) w) (Bm b : Nat) (es : Array MapEntry) (c : Nat) (w : World) (hBm : Bm < w.heap.size) (hm : w.cell? ⟨Bm, 0, none⟩ = some (.map (some b)))
    (hb : w.heap[b]? = some (.map es c)) (hst : MapKept.Stamped es c) (hk : ∀ e ∈ es.toList, ∃ x : Int, e.key = .int .i64 x ∧ (Lit.int .i64 x).wf = true) (hsz : es.size ≤ 1000) :
    Calls Tryz.prog 72 #[.func (.func (ρ.f 10)) #[] #[.pointer (some ⟨Bm, 0, none⟩)]] w (SortedI w es) := by
  have hmax : Maps.size (datumK 3 es) ≤ maxLen := by rw [datumK_size]; unfold maxLen; omega
  have hbytes : Maps.size (datumK 3 es) * 8 ≤ 140737488355328 := by rw [datumK_size]; omega
  have hown := owns_K (k := 3) hb hst (fun e he => let ⟨x, hx, hw⟩ := hk e he; ⟨_, by rw [hx]; exact key_int hw⟩) hsz
  have hseq : SeqGives Fence.wide 2 Tryz.prog (ρ.f 10) #[.pointer (some ⟨Bm, 0, none⟩)] encZ (fun ss => ss.Perm (intKeys (datumK 3 es))) (Maps.size (datumK 3 es)) w :=
    AnyZI.keys_gives L Fence.wide _ trivial rfl (by omega) Bm b es.size (datumK 3 es) w hBm hm (by rw [h26]; exact hown)
  exact callsIn_wide.1 (AnyZI.sorted_in Tryz.sorted39 Fence.wide 5 trivial trivial trivial trivial rfl (by omega) (sorts_int _) (enters_of Tryz.func75 (by kernel_rfl) rfl) (ρ.f 10) #[.pointer (some ⟨Bm, 0, none⟩)] trivial eg _ _ hmax hbytes w hseq)
theorem sortedI_nil {ρ : Ren} (L : Go.Proofs.SlLaysZI.n10 Tryz.prog ρ) (eg : ∀ args w, (callFunc (ρ.f 10) args).run Tryz.prog w = .ok (.enter (ρ.f 10) args) w) (Bm : Nat) (w : World) (hBm : Bm < w.heap.size) (hm : w.cell? ⟨Bm, 0, none⟩ = some (.map none)) :
    Calls Tryz.prog 72 #[.func (.func (ρ.f 10)) #[] #[.pointer (some ⟨Bm, 0, none⟩)]] w fun e w' => e = .returned (.slice none 0 0) ∧ Below w.heap.size w w' := by
  have hseq : SeqGives Fence.wide 2 Tryz.prog (ρ.f 10) #[.pointer (some ⟨Bm, 0, none⟩)] encZ (fun ss : List Int => ss = []) 0 w :=
    AnyZI.keys_gives_nil L Fence.wide _ trivial rfl Bm w hBm hm
  refine (callsIn_wide.1 (AnyZI.sorted_in Tryz.sorted39 Fence.wide 5 trivial trivial trivial trivial rfl (by omega) (sorts_int _) (enters_of Tryz.func75 (by kernel_rfl) rfl) (ρ.f 10) #[.pointer (some ⟨Bm, 0, none⟩)] trivial eg _ 0 (Nat.zero_le _) (by omega) w hseq)).mono ?_
  rintro e w' ⟨v, ss, rfl, rfl, hrow, hnil, hb⟩
  exact ⟨by rw [hnil.2 rfl], hb⟩

/-! Strings. -/
theorem key_str {s : ByteArray} (h : s.size ≤ 1000) : keyOf Tryz.prog 9 (.string s) = some (.string s.data.toList) := by
  have : s.size ≤ maxLen := by unfold maxLen; omega
  simp [keyOf, Tryz.underlying9, mapKey, this]
theorem sorts_str (m : Nat) : AnyZ.SortsIn Tryz.prog Tryz.sorted157_ren Fence.wide m :=
  ⟨fun blk off cap ss W hH hblk hsz => callsIn_wide.2 (AnyM.slices_Sort_string Tryz.sort235 blk off cap ss W hH hblk hsz),
   fun p cap W => callsIn_wide.2 (AnyM.slices_Sort_string_none Tryz.sort235 p cap W)⟩
def SortedS (w : World) (es : Array MapEntry) (e : Ending) (w' : World) : Prop := ∃ (v : Value) (ss : List (List UInt8)), e = .returned v ∧ ss.Perm (Go.strKeys (datumK 9 es)) ∧
      w'.ownsRow w.heap.size 9 1 v ss.length ((ss.mergeSort (fun x y => decide (x ≤ y))).map encStr) ∧ (v = .slice none 0 0 ↔ ss = []) ∧ Below w.heap.size w w'
theorem sortedS_w {ρ : Ren} (L : Go.Proofs.SlLaysZ.n10 Tryz.prog ρ) (h26 : ρ.t 26 = 9) (eg : ∀ args w, (callFunc (ρ.f 10) args).run Tryz.prog w = .ok (.enter (ρ.f 10) args) w) (Bm b : Nat) (es : Array MapEntry) (c : Nat) (w : World) (hBm : Bm < w.heap.size) (hm : w.cell? ⟨Bm, 0, none⟩ = some (.map (some b)))
    (hb : w.heap[b]? = some (.map es c)) (hst : MapKept.Stamped es c) (hk : ∀ e ∈ es.toList, ∃ s : ByteArray, e.key = .string s ∧ s.size ≤ 1000) (hsz : es.size ≤ 1000) :
    Calls Tryz.prog 190 #[.func (.func (ρ.f 10)) #[] #[.pointer (some ⟨Bm, 0, none⟩)]] w (SortedS w es) := by
  have hmax : Maps.size (datumK 9 es) ≤ maxLen := by rw [datumK_size]; unfold maxLen; omega
  have hbytes : Maps.size (datumK 9 es) * 16 ≤ 140737488355328 := by rw [datumK_size]; omega
  have hown := owns_K (k := 9) hb hst (fun e he => let ⟨x, hx, hw⟩ := hk e he; ⟨_, by rw [hx]; exact key_str hw⟩) hsz
  have hseq : SeqGives Fence.wide 2 Tryz.prog (ρ.f 10) #[.pointer (some ⟨Bm, 0, none⟩)] encStr (fun ss => ss.Perm (Go.strKeys (datumK 9 es))) (Maps.size (datumK 9 es)) w :=
    AnyZ.keys_gives L Fence.wide _ trivial rfl (by omega) Bm b es.size (datumK 9 es) w hBm hm (by rw [h26]; exact hown)
  exact callsIn_wide.1 (AnyZ.sorted_in Tryz.sorted157 Fence.wide 5 trivial trivial trivial trivial rfl (by omega) (sorts_str _) (enters_of Tryz.func295 (by kernel_rfl) rfl) (ρ.f 10) #[.pointer (some ⟨Bm, 0, none⟩)] trivial eg _ _ hmax hbytes w hseq)
end Go.Proofs.YtbmiedinclieaaaGreatDoor

namespace Go.Proofs.YtbmiedinclieaaaGreatDoor
open Go.Clo

/-! Sorting, in general. -/
section
variable {α : Type} {lt : α → α → Bool}
theorem insG_perm (z : α) : ∀ l : List α, (insG lt z l).Perm (z :: l)
  | [] => List.Perm.refl _
  | x :: l => by
    simp only [insG]
    cases lt x z with
    | true => exact ((insG_perm z l).cons x).trans (List.Perm.swap _ _ _)
    | false => exact List.Perm.refl _
theorem sortG_perm : ∀ l : List α, (sortG lt l).Perm l
  | [] => List.Perm.refl _
  | z :: l => (insG_perm z _).trans ((sortG_perm l).cons z)
variable {le : α → α → Prop} (tr : ∀ a b c, le a b → le b c → le a c) (h1 : ∀ a b, lt a b = true → le a b) (h2 : ∀ a b, lt a b = false → le b a)
include tr h1 h2
theorem insG_sorted (z : α) : ∀ l : List α, l.Pairwise le → (insG lt z l).Pairwise le
  | [], _ => by simp [insG]
  | x :: l, h => by
    have hx := List.pairwise_cons.1 h
    simp only [insG]
    cases hb : lt x z with
    | true =>
      simp only [cond_true]
      refine List.pairwise_cons.2 ⟨fun y hy => ?_, insG_sorted z l hx.2⟩
      rcases List.mem_cons.1 ((insG_perm z l).mem_iff.1 hy) with rfl | hy
      · exact h1 _ _ hb
      · exact hx.1 y hy
    | false =>
      simp only [cond_false]
      refine List.pairwise_cons.2 ⟨fun y hy => ?_, h⟩
      rcases List.mem_cons.1 hy with rfl | hy
      · exact h2 _ _ hb
      · exact tr _ _ _ (h2 _ _ hb) (hx.1 y hy)
theorem sortG_sorted : ∀ l : List α, (sortG lt l).Pairwise le
  | [] => .nil
  | z :: l => insG_sorted tr h1 h2 z _ (sortG_sorted l)
end
theorem sortZ_perm (zs : List Int) : (sortZ zs).Perm zs := sortG_perm zs
theorem sortB_perm (zs : List ByteArray) : (sortB zs).Perm zs := sortG_perm zs
theorem sortZ_is {ss zs : List Int} (h : ss.Perm zs) : (ss.mergeSort fun x y => decide (x ≤ y)) = sortZ zs := by
  have hs : (sortZ zs).Pairwise (· ≤ ·) := sortG_sorted (lt := fun a b => ltI a b) (le := fun a b => a ≤ b) (fun a b c => Int.le_trans) (fun a b h => by rw [ltI_eq, decide_eq_true_eq] at h; omega) (fun a b h => by rw [ltI_eq, decide_eq_false_iff_not] at h; omega) zs
  refine List.Perm.eq_of_pairwise (le := fun a b => decide (a ≤ b) = true) (fun a b _ _ h1 h2 => ?_) (List.pairwise_mergeSort (fun a b c h1 h2 => ?_) (fun a b => ?_) ss) (hs.imp fun h => by simpa using h) ((List.mergeSort_perm _ _).trans (h.trans (sortZ_perm zs).symm))
  · simp only [decide_eq_true_eq] at h1 h2; omega
  · simp only [decide_eq_true_eq] at *; omega
  · simp only [Bool.or_eq_true, decide_eq_true_eq]; omega
theorem bytes_inj {a b : ByteArray} (h : a.data.toList = b.data.toList) : a = b := by
  cases a; cases b; simpa using h
def leA (a b : ByteArray) : Prop := a.data.toList ≤ b.data.toList
theorem sortB_is {ss : List (List UInt8)} {zs : List ByteArray} (h : ss.Perm (zs.map fun z => z.data.toList)) : (ss.mergeSort fun x y => decide (x ≤ y)).map encStr = strs (sortB zs) := by
  have hs : (sortB zs).Pairwise leA := sortG_sorted (lt := fun (a b : ByteArray) => Op.bytesLess a.data.toList b.data.toList) (le := leA) (fun a b c h1 h2 => List.le_trans h1 h2) (fun a b h => by rw [Go.Proofs.bytesLess_eq, decide_eq_true_eq] at h; exact List.le_of_lt h)
    (fun a b h => by rw [Go.Proofs.bytesLess_eq, decide_eq_false_iff_not] at h; exact List.not_lt.1 h) zs
  have hp : (ss.mergeSort fun x y => decide (x ≤ y)) = (sortB zs).map fun z => z.data.toList := by
    refine List.Perm.eq_of_pairwise (le := fun a b => decide (a ≤ b) = true) (fun a b _ _ h1 h2 => ?_) (List.pairwise_mergeSort (fun a b c h1 h2 => ?_) (fun a b => ?_) ss) ?_ ?_
    · simp only [decide_eq_true_eq] at h1 h2; exact List.le_antisymm h1 h2
    · simp only [decide_eq_true_eq] at *; exact List.le_trans h1 h2
    · simp only [Bool.or_eq_true, decide_eq_true_eq]; exact List.le_total a b
    · rw [List.pairwise_map]; exact hs.imp fun h => by simpa [leA] using h
    · exact (List.mergeSort_perm _ _).trans (h.trans ((sortB_perm zs).map _).symm)
  rw [hp, List.map_map]
  simp [strs, encStr, Function.comp_def]

/-! Keys. -/
theorem wf_int {x : Int} (h : 0 ≤ x ∧ x ≤ 1000000) : (Lit.int .i64 x).wf = true := by
  have h1 : IntKind.i64.min = -9223372036854775808 := by decide
  have h2 : IntKind.i64.max = 9223372036854775807 := by decide
  simp only [Lit.wf, Bool.and_eq_true, decide_eq_true_eq, h1, h2]; omega
/-- The keys in the world are those in the heap. -/
theorem keys_perm {F : FM} {es es' : List MapEntry} (h : ML F es es') : (es'.map (·.key)).Perm (es.map (·.key)) := by
  refine (List.perm_ext_iff_of_nodup h.nd' h.nd).2 fun k => ⟨fun hk1 => ?_, fun hk1 => ?_⟩
  · obtain ⟨e, he, rfl⟩ := List.mem_map.1 hk1
    obtain ⟨e0, h0, hk0⟩ := h.bwd e he
    exact List.mem_map.2 ⟨e0, h0, hk0⟩
  · obtain ⟨e, he, rfl⟩ := List.mem_map.1 hk1
    obtain ⟨_, e', h0, hk0, _⟩ := h.fwd e he
    exact List.mem_map.2 ⟨e', h0, hk0⟩
theorem rg_lit {k : TypeId} {e : MapEntry} {l : Lit} (h : keyOf Tryz.prog k e.key = some l) : (Go.WideElems.rg Tryz.prog k RU e).1 = l := by
  have hr : Go.WideElems.rd Tryz.prog k RU e = some (l, .nil) := by unfold Go.WideElems.rd RU; rw [h]; rfl
  rw [Go.WideElems.rg_of hr]
set_option maxRecDepth 100000 in
theorem worldI {F : FM} {es : List MapEntry} {es' : Array MapEntry} {zs : List Int} (h : ML F es es'.toList) (hz : keysI es = some zs) :
    (∀ e ∈ es'.toList, ∃ x : Int, e.key = .int .i64 x ∧ (Lit.int .i64 x).wf = true) ∧ (Go.intKeys (datumK 3 es')).Perm zs ∧ es'.size = zs.length := by
  obtain ⟨g1, g2⟩ := keysI_map hz
  have hk : ∀ e ∈ es'.toList, ∃ x : Int, e.key = .int .i64 x ∧ (Lit.int .i64 x).wf = true := by
    intro e he
    obtain ⟨e0, h0, hk0⟩ := h.bwd e he
    have : e0.key ∈ es.map (·.key) := List.mem_map.2 ⟨e0, h0, rfl⟩
    rw [g1] at this
    obtain ⟨z, hz', e1⟩ := List.mem_map.1 this
    exact ⟨z, by rw [← hk0, ← e1], wf_int (g2 z hz')⟩
  refine ⟨hk, ?_, ?_⟩
  · have hp1 : (Go.intKeys (datumK 3 es')).Perm (es'.toList.map fun e => Go.intOf (Go.WideElems.rg Tryz.prog 3 RU e).1) := by
      simp only [datumK, Go.intKeys]
      have := (Go.WideShapes.sorted_perm (es'.toList.map (Go.WideElems.rg Tryz.prog 3 RU))).map fun p => Go.intOf p.1
      rw [List.map_map] at this
      exact this
    refine hp1.trans ?_
    have e1 : (es'.toList.map fun e => Go.intOf (Go.WideElems.rg Tryz.prog 3 RU e).1) = (es'.toList.map (·.key)).map fun v => match v with | .int _ x => x | _ => 0 := by
      rw [List.map_map]
      refine List.map_congr_left fun e he => ?_
      obtain ⟨s, hs, hl⟩ := hk e he
      rw [rg_lit (by rw [hs]; exact key_int hl)]
      simp [hs, Go.intOf]
    rw [e1]
    have hperm := keys_perm h
    rw [g1] at hperm
    have := hperm.map fun v => (match v with | .int _ x => x | _ => 0 : Int)
    rw [List.map_map (l := zs)] at this
    have e2 : zs.map ((fun v => (match v with | .int _ x => x | _ => 0 : Int)) ∘ Value.int .i64) = zs := by
      conv => rhs; rw [← List.map_id zs]
      rfl
    rw [e2] at this
    exact this
  · have h1 := h.len
    have h2 := congrArg List.length g1
    simp only [List.length_map] at h2
    rw [← h2, h1]; simp
set_option maxRecDepth 100000 in
theorem worldS {F : FM} {es : List MapEntry} {es' : Array MapEntry} {zs : List ByteArray} (h : ML F es es'.toList) (hz : keysS es = some zs) :
    (∀ e ∈ es'.toList, ∃ s : ByteArray, e.key = .string s ∧ s.size ≤ 1000) ∧ (Go.strKeys (datumK 9 es')).Perm (zs.map fun z => z.data.toList) ∧ es'.size = zs.length := by
  obtain ⟨g1, g2⟩ := keysS_map hz
  have hk : ∀ e ∈ es'.toList, ∃ s : ByteArray, e.key = .string s ∧ s.size ≤ 1000 := by
    intro e he
    obtain ⟨e0, h0, hk0⟩ := h.bwd e he
    have : e0.key ∈ es.map (·.key) := List.mem_map.2 ⟨e0, h0, rfl⟩
    rw [g1] at this
    obtain ⟨z, hz', e1⟩ := List.mem_map.1 this
    exact ⟨z, by rw [← hk0, ← e1], g2 z hz'⟩
  refine ⟨hk, ?_, ?_⟩
  · have hp1 : (Go.strKeys (datumK 9 es')).Perm (es'.toList.map fun e => Go.strOf (Go.WideElems.rg Tryz.prog 9 RU e).1) := by
      simp only [datumK, Go.strKeys]
      have := (Go.WideShapes.sorted_perm (es'.toList.map (Go.WideElems.rg Tryz.prog 9 RU))).map fun p => Go.strOf p.1
      rw [List.map_map] at this
      exact this
    refine hp1.trans ?_
    have e1 : (es'.toList.map fun e => Go.strOf (Go.WideElems.rg Tryz.prog 9 RU e).1) = (es'.toList.map (·.key)).map fun v => match v with | .string s => s.data.toList | _ => [] := by
      rw [List.map_map]
      refine List.map_congr_left fun e he => ?_
      obtain ⟨s, hs, hl⟩ := hk e he
      rw [rg_lit (by rw [hs]; exact key_str hl)]
      simp [hs, Go.strOf]
    rw [e1]
    have hperm := keys_perm h
    rw [g1] at hperm
    have := hperm.map fun v => (match v with | .string s => s.data.toList | _ => [] : List UInt8)
    rw [List.map_map (l := zs)] at this
    exact this
  · have h1 := h.len
    have h2 := congrArg List.length g1
    simp only [List.length_map] at h2
    rw [← h2, h1]; simp

/-! A new slice; nil where there is nothing. -/
/-- A world that has only grown. -/
theorem Stp.below {F : FM} {H : Heap} {nx : Nat} {w w' : World} (hr : HR F H nx w) (hb : RowKit.Below w.heap.size w w') : Stp F H nx w F H nx w' :=
  ⟨Nat.le_refl _, fun _ _ => rfl, hb.os, hb.tape, hb.output, hb.size, fun k hk _ => hb.block k hk, fun b hb => .inl hb, fun i _ h => h, fun i b hg _ => ⟨hr.low hg, hg⟩,
   ⟨fun i b hi hg => let ⟨t, h1, h2⟩ := hr.blk i b hi hg; ⟨t, h1, h2.mono (fun _ _ h => h) (hb.block _ h2.lt)⟩, hr.inj, hr.fresh, hr.top, hr.gl.step (fun k hk _ => hb.block k hk) fun b hb => .inl hb⟩⟩
theorem row_end {F : FM} {H : Heap} {nx : Nat} {w w' : World} (hr : HR F H nx w) {t : TypeId} {v : Value} {n : Nat} {xs : List Value} (hrow : w'.ownsRow w.heap.size t 1 v n xs) (hn : n = xs.length) (hnil : v = .slice none 0 0 ↔ xs = []) (hfl : xs.all flat1 = true) (hb : RowKit.Below w.heap.size w w') :
    ∃ F', VR F' (newR xs H nx).1 v ∧ Stp F H nx w F' (newR xs H nx).2.1 (newR xs H nx).2.2 w' := by
  subst hn
  rcases hrow.2 with ⟨rfl, h0⟩ | ⟨g, cap, cur, rfl, hg, hc, h1, h2, h3, h4⟩
  · have : xs = [] := List.eq_nil_of_length_eq_zero (by omega)
    subst this
    exact ⟨F, .sliceN 0 0, Stp.below hr hb⟩
  · cases xs with
    | nil =>
      exfalso
      have := hnil.2 rfl
      cases this
    | cons z l =>
      obtain ⟨F', hv, hst⟩ := Stp.row hr hb hg hc h1 (by omega) (by rw [Nat.mul_one] at h4; exact h4) (by unfold Go.maxLen at h2; omega) hfl
      exact ⟨F', hv, hst⟩

/-! slices.Sorted. -/
theorem enters39 : Go.Clo.Enters Tryz.prog 72 := ⟨_, _, Tryz.func72, rfl, by kernel_rfl⟩
theorem enters157 : Go.Clo.Enters Tryz.prog 190 := ⟨_, _, Tryz.func190, rfl, by kernel_rfl⟩
/-- The box that maps.Keys leaves: the map behind it. -/
theorem box_world {F : FM} {H : Heap} {nx : Nat} {w : World} (hr : HR F H nx w) {g p sl : Nat} {m v' : Value} (hp : getH H p = some (.cells [m] sl)) (h1000 : 1000 ≤ sl) (h0 : sl % 1000 = 0) (hv : VR F (.func (.func g) ⟨[]⟩ ⟨[.pointer (some ⟨p, 0, none⟩)]⟩) v') :
    ∃ Bm m', v' = .func (.func g) #[] #[.pointer (some ⟨Bm, 0, none⟩)] ∧ Bm < w.heap.size ∧ w.cell? ⟨Bm, 0, none⟩ = some m' ∧ VR F m m' := by
  cases hv with
  | @func _ _ x' _ y' e1 e2 e3 e4 =>
    obtain rfl : x' = #[] := Array.eq_empty_of_size_eq_zero e1.symm
    obtain ⟨q, rfl⟩ : ∃ q, y' = #[q] := by
      have : y'.toList.length = 1 := by simpa using e3.symm
      match hy : y'.toList, this with
      | [q], _ => exact ⟨q, by rw [← Array.toArray_toList (xs := y'), hy]⟩
    have hq := e4 0 _ _ rfl rfl
    generalize q = q' at *
    cases hq with
    | @ptr _ _ t hF =>
      obtain ⟨c', e, fz, g1, ⟨g2, g3, _⟩, g4, g5, g6, g7⟩ := hr.hb.get hF hp
      have hb0 := ((g3 h1000).2 h0).1
      rw [hb0] at g6 g7 ⊢
      simp only [List.length_cons, List.length_nil] at g6 g7
      rw [List.drop_zero] at g7
      have hlen := g7.length
      cases hc : c'.toList with
      | nil => rw [hc] at hlen; simp at hlen
      | cons a l =>
        rw [hc] at g7
        simp only [List.take_succ_cons, List.take_zero] at g7
        cases g7 with
        | cons hv _ =>
        refine ⟨t.blk, a, by simp, (Array.getElem?_eq_some_iff.1 g1).1, ?_, hv⟩
        have : c'[0]? = some a := by rw [← Array.getElem?_toList, hc]; rfl
        simp [World.cell?, g1, this]
theorem sortedI_cs {ρ : Go.Shelf.Ren} (L : Go.Proofs.SlLaysZI.n10 Tryz.prog ρ) (h26 : ρ.t 26 = 3) (eg : ∀ args w, (callFunc (ρ.f 10) args).run Tryz.prog w = .ok (.enter (ρ.f 10) args) w) {p sl r : Nat} {es : List MapEntry} {c : Nat} {zs : List Int} {H : Heap} {nx : Nat}
    (hp : getH H p = some (.cells [.map (some r)] sl)) (h1000 : 1000 ≤ sl) (h0 : sl % 1000 = 0) (hg : getH H r = some (.map es c)) (hz : keysI es = some zs) (hl : zs.length ≤ 1000) :
    CS Tryz.prog 72 [.func (.func (ρ.f 10)) ⟨[]⟩ ⟨[.pointer (some ⟨p, 0, none⟩)]⟩] H nx (newR ((sortZ zs).map (Value.int .i64)) H nx).1 (newR ((sortZ zs).map (Value.int .i64)) H nx).2.1 (newR ((sortZ zs).map (Value.int .i64)) H nx).2.2 := by
  refine ⟨enters39, fun F args' w hr hv => ?_⟩
  cases hv with
  | cons hv hv2 =>
  cases hv2
  obtain ⟨Bm, m', rfl, hlt, hcell, hm⟩ := box_world hr hp h1000 h0 hv
  cases hm with
  | @map _ t hF =>
  obtain ⟨_, es', c', hw, _, hel, hst⟩ := hr.hb.get hF hg
  obtain ⟨k1, k2, k3⟩ := worldI hel hz
  refine (sortedI_w L h26 eg Bm t.blk es' c' w hlt hcell hw hst k1 (by omega)).mono fun e w' ⟨v, ss, he, hS, hrow, hnil, hb⟩ => ?_
  have hss := hS.trans k2
  rw [sortZ_is hss] at hrow
  have hlen : ss.length = (sortZ zs).length := by rw [(sortZ_perm zs).length_eq, hss.length_eq]
  obtain ⟨F', h1, h2⟩ := row_end (H := H) (nx := nx) (xs := (sortZ zs).map (Value.int .i64)) hr hrow (by simpa using hlen) (by
    rw [hnil, List.map_eq_nil_iff]
    constructor
    · intro h; rw [h] at hlen; exact List.eq_nil_of_length_eq_zero hlen.symm
    · intro h; rw [h] at hlen; exact List.eq_nil_of_length_eq_zero hlen) (by simp [List.all_map, flat1]) hb
  exact ⟨v, F', he, h1, h2⟩
theorem sortedI_nil_cs {ρ : Go.Shelf.Ren} (L : Go.Proofs.SlLaysZI.n10 Tryz.prog ρ) (eg : ∀ args w, (callFunc (ρ.f 10) args).run Tryz.prog w = .ok (.enter (ρ.f 10) args) w) {p sl : Nat} {H : Heap} {nx : Nat}
    (hp : getH H p = some (.cells [.map none] sl)) (h1000 : 1000 ≤ sl) (h0 : sl % 1000 = 0) :
    CS Tryz.prog 72 [.func (.func (ρ.f 10)) ⟨[]⟩ ⟨[.pointer (some ⟨p, 0, none⟩)]⟩] H nx (.slice none 0 0) H nx := by
  refine ⟨enters39, fun F args' w hr hv => ?_⟩
  cases hv with
  | cons hv hv2 =>
  cases hv2
  obtain ⟨Bm, m', rfl, hlt, hcell, hm⟩ := box_world hr hp h1000 h0 hv
  cases hm
  exact (sortedI_nil L eg Bm w hlt hcell).mono fun e w' ⟨he, hb⟩ => ⟨_, F, he, .sliceN 0 0, Stp.below hr hb⟩
theorem sortedS_cs {ρ : Go.Shelf.Ren} (L : Go.Proofs.SlLaysZ.n10 Tryz.prog ρ) (h26 : ρ.t 26 = 9) (eg : ∀ args w, (callFunc (ρ.f 10) args).run Tryz.prog w = .ok (.enter (ρ.f 10) args) w) {p sl r : Nat} {es : List MapEntry} {c : Nat} {zs : List ByteArray} {H : Heap} {nx : Nat}
    (hp : getH H p = some (.cells [.map (some r)] sl)) (h1000 : 1000 ≤ sl) (h0 : sl % 1000 = 0) (hg : getH H r = some (.map es c)) (hz : keysS es = some zs) (hl : zs.length ≤ 1000) :
    CS Tryz.prog 190 [.func (.func (ρ.f 10)) ⟨[]⟩ ⟨[.pointer (some ⟨p, 0, none⟩)]⟩] H nx (newR (strs (sortB zs)) H nx).1 (newR (strs (sortB zs)) H nx).2.1 (newR (strs (sortB zs)) H nx).2.2 := by
  refine ⟨enters157, fun F args' w hr hv => ?_⟩
  cases hv with
  | cons hv hv2 =>
  cases hv2
  obtain ⟨Bm, m', rfl, hlt, hcell, hm⟩ := box_world hr hp h1000 h0 hv
  cases hm with
  | @map _ t hF =>
  obtain ⟨_, es', c', hw, _, hel, hst⟩ := hr.hb.get hF hg
  obtain ⟨k1, k2, k3⟩ := worldS hel hz
  refine (sortedS_w L h26 eg Bm t.blk es' c' w hlt hcell hw hst k1 (by omega)).mono fun e w' ⟨v, ss, he, hS, hrow, hnil, hb⟩ => ?_
  have hss := hS.trans k2
  rw [sortB_is hss] at hrow
  have hlen : ss.length = (sortB zs).length := by rw [(sortB_perm zs).length_eq]; simpa using hss.length_eq
  obtain ⟨F', h1, h2⟩ := row_end (H := H) (nx := nx) (xs := strs (sortB zs)) hr hrow (by rw [strs_length]; exact hlen) (by
    rw [hnil]
    have e1 : strs (sortB zs) = [] ↔ sortB zs = [] := by simp [strs]
    rw [e1]
    constructor
    · intro h; rw [h] at hlen; exact List.eq_nil_of_length_eq_zero hlen.symm
    · intro h; rw [h] at hlen; exact List.eq_nil_of_length_eq_zero hlen) (strs_flat _) hb
  exact ⟨v, F', he, h1, h2⟩
/-! maps.Keys. -/
theorem keys_cs {f g T : Nat} (hE : Go.Clo.Enters Tryz.prog f) (hc : ∀ mb W, Calls Tryz.prog f #[.map mb] W fun e w' => e = .returned (.func (.func g) #[] #[.pointer (some ⟨W.heap.size, 0, none⟩)]) ∧ w' = W.alloc (.cells #[.map mb] T)) (m : Option Nat) (H : Heap) (nx : Nat) :
    CS Tryz.prog f [.map m] H nx (.func (.func g) ⟨[]⟩ ⟨[.pointer (some ⟨nx, 0, none⟩)]⟩) (hs H nx (some (.cells [.map m] (1000 * (T + 1))))) (nx + 1) := by
  refine ⟨hE, fun F args' w hr hv => ?_⟩
  cases hv with
  | cons hv hv2 =>
  cases hv2
  rename_i v1
  obtain ⟨mb, rfl⟩ : ∃ mb, v1 = Value.map mb := by
    cases hv with
    | mapN => exact ⟨none, rfl⟩
    | map h => exact ⟨_, rfl⟩
  refine (hc mb w).mono fun e w' ⟨he, hw⟩ => ?_
  subst hw
  obtain ⟨t, h1, h2, hst⟩ := Stp.new (b := .cells [.map m] (1000 * (T + 1))) (obj := .cells #[.map mb] T) hr ⟨_, _, rfl, fun _ => ⟨tag_div0 T, fun _ => ⟨rfl, rfl⟩⟩, .cons hv .nil⟩
  refine ⟨_, _, he, ?_, hst⟩
  have hp : VR (upd F nx t) (.pointer (some ⟨nx, 0, none⟩)) (.pointer (some ⟨w.heap.size, 0, none⟩)) := by
    have := VR.ptr (F := upd F nx t) (b := nx) (o := 0) (t := t) (upd_same F nx t)
    rw [h1, h2] at this
    exact this
  refine .func _ rfl (by simp) rfl fun i v v' e1 e2 => ?_
  rcases i with _ | i
  · simp at e1 e2; subst e1; subst e2; exact hp
  · simp at e1
end Go.Proofs.YtbmiedinclieaaaGreatDoor

namespace Go.Proofs.YtbmiedinclieaaaGreatDoor
open Go.Clo

abbrev O := List Value → Heap → Nat → Option (Value × Heap × Nat)
def cloneO : O := fun args H nx => match args with
  | [.string s] => cond (Nat.ble s.size 1000) (some (.string s, H, nx)) none
  | _ => none
def compareO : O := fun args H nx => match args with
  | [.string a, .string b] => forceI (Lib.compareBytes a.data.toList b.data.toList) fun n => some (.int .i64 n, H, nx)
  | _ => none
def tz (x : Nat) : Nat := ((List.range 32).find? fun i => x.testBit i).getD 32
def tzO : O := fun args H nx => match args with
  | [.int .u32 (.ofNat x)] => cond (Nat.blt 0 x && Nat.blt x 64) (forceN (tz x) fun t => some (.int .i64 (.ofNat t), H, nx)) none
  | _ => none
/-- Room for n elements, each of which is z, at nil. -/
noncomputable def growO (z : Value) : O := fun args H nx => match args with
  | [.slice none 0 0, .int .i64 (.ofNat n)] => cond (Nat.beq n 0) (some (.slice none 0 0, H, nx)) (cond (Nat.ble n 100000) (Go.Clo.spine (List.replicate n z) fun l => hsK H nx (some (.cells l 1)) fun H => forceN (nx + 1) fun q => some (.slice (some ⟨nx, 0, none⟩) 0 n, H, q)) none)
  | _ => none
noncomputable def mcloneO : O := fun args H nx => match args with
  | [.map none] => some (.map none, H, nx)
  | [.map (some r)] => getB H r none fun b => match b with
    | .map es k => hsK H nx (some (.map es k)) fun H => forceN (nx + 1) fun q => some (.map (some nx), H, q)
    | _ => none
  | _ => none
/-- maps.Keys: a closure over a new box that holds the map. -/
noncomputable def keysO (g T : Nat) : O := fun args H nx => match args with
  | [.map m] => hsK H nx (some (.cells [.map m] (1000 * (T + 1)))) fun H => forceN (nx + 1) fun q => some (.func (.func g) ⟨[]⟩ ⟨[.pointer (some ⟨nx, 0, none⟩)]⟩, H, q)
  | _ => none
/-- The map in such a box. -/
noncomputable def boxK (H : Heap) (p : Nat) (k : Option Nat → Option (Value × Heap × Nat)) : Option (Value × Heap × Nat) := getB H p none fun b => match b with
  | .cells [.map m] sl => cond (Nat.ble 1000 sl && Nat.beq (sl % 1000) 0) (k m) none
  | _ => none
noncomputable def sortedIO (ok : Nat → Bool) : O := fun args H nx => match args with
  | [.func (.func g) ⟨[]⟩ ⟨[.pointer (some ⟨p, 0, none⟩)]⟩] => cond (ok g) (boxK H p fun m => match m with
    | none => some (.slice none 0 0, H, nx)
    | some r => getB H r none fun b => match b with
      | .map es _ => (match keysI es with
        | some zs => cond (Nat.ble zs.length 1000) (newQ ((sortZ zs).map (Value.int .i64)) H nx) none
        | none => none)
      | _ => none) none
  | _ => none
noncomputable def sortedSO (ok : Nat → Bool) : O := fun args H nx => match args with
  | [.func (.func g) ⟨[]⟩ ⟨[.pointer (some ⟨p, 0, none⟩)]⟩] => cond (ok g) (boxK H p fun m => match m with
    | none => none
    | some r => getB H r none fun b => match b with
      | .map es _ => (match keysS es with
        | some zs => cond (Nat.ble zs.length 1000) (newQ (strs (sortB zs)) H nx) none
        | none => none)
      | _ => none) none
  | _ => none
/-- The cells of a slice of bytes, or the like. -/
noncomputable def sliceK (H : Heap) (v : Value) (k : List Value → Option (Value × Heap × Nat)) : Option (Value × Heap × Nat) := match v with
  | .slice none 0 _ => k []
  | .slice (some a) n _ => rowK H a n none k
  | _ => none
noncomputable def bcompareO : O := fun args H nx => match args with
  | [a, b] => sliceK H a fun x => sliceK H b fun y => (match bytesA x, bytesA y with
    | some x, some y => forceI (Lib.compareBytes x y) fun n => some (.int .i64 n, H, nx)
    | _, _ => none)
  | _ => none
/-! checksum.Update. -/
structure Bx where n : Nat
noncomputable def ct (i : Nat) : Bx := nthK ctab i ⟨0⟩ (fun n => ⟨n⟩)
noncomputable def nib (r : Nat) (k : Nat → Nat) : Nat := fN (Nat.xor (Nat.shiftRight r 4) (ct (Nat.land r 15)).n) k
def natV : Value → Nat
  | .int _ (.ofNat n) => n
  | _ => 0
def byteV : Value → Bool
  | .int .u8 (.ofNat n) => Nat.blt n 256
  | _ => false
noncomputable def crcL (l : List Value) : Nat → Nat :=
  @List.rec Value (fun _ => Nat → Nat) (fun r => r) (fun v _ ih r => fN (Nat.xor r (natV v)) fun r => nib r fun r => nib r ih) l
noncomputable def updateO : O := fun args H nx => match args with
  | [.int .u32 (.ofNat s), b] => cond (Nat.blt s 4294967296) (match b with
    | .slice (some a) n _ => rowK H a n none fun l => cond (l.all byteV && Nat.ble l.length 1000000) (fN (Nat.sub 4294967295 (crcL l (Nat.sub 4294967295 s))) fun n => some (.int .u32 (.ofNat n), H, nx)) none
    | _ => none) none
  | _ => none
def gI (g : Nat) : Bool := Nat.beq g 145
def gS (g : Nat) : Bool := Nat.beq g 296
/-- A few bytes as a number, the least significant one first. -/
def le64 : List Value → Nat
  | [] => 0
  | v :: l => Nat.add (natV v) (Nat.mul 256 (le64 l))
noncomputable def valueO : O := fun args H nx => match args with
  | [.slice (some a) n _] => cond (Nat.ble n 8) (rowK H a n none fun l => cond (l.all byteV) (fN (le64 l) fun v => some (.int .u64 (.ofNat v), H, nx)) none) none
  | _ => none
/-- The oracles that need no other function. -/
noncomputable def orc0 : Orc := fun f =>
  cond (Nat.beq f 410) (some updateO) (cond (Nat.beq f 192) (some cloneO) (cond (Nat.beq f 190) (some (sortedSO gS)) (cond (Nat.beq f 72) (some (sortedIO gI))
  (cond (Nat.beq f 191) (some (keysO 296 33))
  (cond (Nat.beq f 73) (some (keysO 145 39))
  (cond (Nat.beq f 74 || Nat.beq f 137) (some mcloneO)
  (cond (Nat.beq f 432) (some (growO (.string ⟨#[]⟩)))
  (cond (Nat.beq f 330) (some compareO) (cond (Nat.beq f 413) (some bcompareO) (cond (Nat.beq f 158) (some valueO) none))))))))))
def dok : FuncId → Nat → Bool := fun g m => (Nat.beq g 89 && Nat.beq m 2) || (Nat.beq g 102 && Nat.beq m 3)
noncomputable def call0 : OCall := callD (β := Option Out) Tryz.prog orc0 dok 200
end Go.Proofs.YtbmiedinclieaaaGreatDoor

namespace Go.Proofs.YtbmiedinclieaaaGreatDoor
open Go.RowKit Go.Shelf Go.Clo

theorem wrap_u32n (n : Int) : IntKind.u32.wrap n = n % 4294967296 := by simp [IntKind.wrap, IntKind.bits, IntKind.signed]
theorem bits_xor_u32_nat (a b : Nat) (ha : a < 4294967296) (hb : b < 4294967296) : bits .xor .u32 (a : Int) (b : Int) = ((a ^^^ b : Nat) : Int) := by
  have hx : a ^^^ b < 2 ^ 32 := Nat.xor_lt_two_pow (by omega) (by omega)
  have h1 : (BitVec.ofInt 32 (a : Int)).toNat = a := by
    rw [BitVec.ofInt_natCast, BitVec.toNat_ofNat]; exact Nat.mod_eq_of_lt (by omega)
  have h2 : (BitVec.ofInt 32 (b : Int)).toNat = b := by
    rw [BitVec.ofInt_natCast, BitVec.toNat_ofNat]; exact Nat.mod_eq_of_lt (by omega)
  show IntKind.u32.wrap ((BitVec.ofInt 32 (a : Int) ^^^ BitVec.ofInt 32 (b : Int)).toNat : Int) = _
  rw [BitVec.toNat_xor, h1, h2, wrap_u32n]
  omega
theorem bits_and_u32_nat' (a b : Nat) (ha : a < 4294967296) (hb : b < 4294967296) : bits .and .u32 (a : Int) (b : Int) = ((a &&& b : Nat) : Int) := by
  have hx : a &&& b < 2 ^ 32 := Nat.and_lt_two_pow _ (by omega)
  have h1 : (BitVec.ofInt 32 (a : Int)).toNat = a := by
    rw [BitVec.ofInt_natCast, BitVec.toNat_ofNat]; exact Nat.mod_eq_of_lt (by omega)
  have h2 : (BitVec.ofInt 32 (b : Int)).toNat = b := by
    rw [BitVec.ofInt_natCast, BitVec.toNat_ofNat]; exact Nat.mod_eq_of_lt (by omega)
  show IntKind.u32.wrap ((BitVec.ofInt 32 (a : Int) &&& BitVec.ofInt 32 (b : Int)).toNat : Int) = _
  rw [BitVec.toNat_and, h1, h2, wrap_u32n]
  omega
/-- The remainder behind one more nibble. -/
def nibN (r : Nat) : Nat := Nat.xor (Nat.shiftRight r 4) (ctab.getD (Nat.land r 15) 0)
def crcN : List Nat → Nat → Nat
  | [], r => r
  | v :: l, r => crcN l (nibN (nibN (r ^^^ v)))
def intOf : Value → Int | .int _ q => q | _ => 0
theorem ctab_lt : ∀ i, i < 16 → ctab.getD i 0 < 4294967296 := by decide
theorem nibN_lt {r : Nat} (h : r < 4294967296) : nibN r < 4294967296 := by
  unfold nibN
  have h1 : Nat.land r 15 < 16 := Nat.and_lt_two_pow (n := 4) _ (by omega)
  have h2 : Nat.shiftRight r 4 < 2 ^ 32 := by
    have : Nat.shiftRight r 4 = r / 16 := Nat.shiftRight_eq_div_pow r 4
    omega
  exact Nat.xor_lt_two_pow h2 (ctab_lt _ h1)
theorem xor_ones {s : Nat} (h : s < 4294967296) : 4294967295 ^^^ s = 4294967295 - s := by
  have h1 : (BitVec.allOnes 32 ^^^ BitVec.ofNat 32 s).toNat = 4294967295 ^^^ s := by
    rw [BitVec.toNat_xor, BitVec.toNat_allOnes, BitVec.toNat_ofNat, Nat.mod_eq_of_lt (by omega)]
  rw [← h1, BitVec.allOnes_xor, BitVec.toNat_not, BitVec.toNat_ofNat, Nat.mod_eq_of_lt (by omega)]
theorem not_u32 {s : Nat} (h : s < 4294967296) : IntKind.u32.wrap (-(s : Int) - 1) = ((4294967295 - s : Nat) : Int) := by
  rw [wrap_u32n]; omega
theorem and15 {x : Nat} (h : x < 4294967296) : bits .and .u32 (x : Int) 15 = ((x &&& 15 : Nat) : Int) := bits_and_u32_nat' x 15 h (by omega)
theorem div16 (x : Nat) : (x : Int) / 16 = ((x / 16 : Nat) : Int) := by omega
theorem first_round (w : World) (R v : Nat) (hR : R < 4294967296) (hv : v < 256) (hg : ∀ i, i < 16 → w.cell? ⟨2, i, none⟩ = some (.int .u32 (ctab.getD i 0 : Nat))) :
    ∃ x1 i1 a1 : Nat, x1 < 4294967296 ∧ i1 < 16 ∧ bits .xor .u32 (R : Int) (v : Int) = (x1 : Int) ∧ bits .and .u32 (x1 : Int) 15 = (i1 : Int) ∧ w.cell? ⟨2, i1, none⟩ = some (.int .u32 (a1 : Int)) ∧ (a1 = ctab.getD i1 0 ∧ i1 = Nat.land x1 15 ∧ x1 = R ^^^ v) := by
  have hx : R ^^^ v < 2 ^ 32 := Nat.xor_lt_two_pow (by omega) (by omega)
  have hi : (R ^^^ v) &&& 15 < 16 := Nat.and_lt_two_pow (n := 4) _ (by omega)
  refine ⟨R ^^^ v, (R ^^^ v) &&& 15, ctab.getD ((R ^^^ v) &&& 15) 0, hx, hi, ?_, and15 hx, hg _ hi, rfl, rfl, rfl⟩
  exact bits_xor_u32_nat _ _ hR (by omega)
theorem nib_round (w : World) (x a : Nat) (hx : x < 4294967296) (ha : a < 4294967296) (hg : ∀ i, i < 16 → w.cell? ⟨2, i, none⟩ = some (.int .u32 (ctab.getD i 0 : Nat))) :
    ∃ y i b : Nat, y < 4294967296 ∧ i < 16 ∧ bits .xor .u32 ((x : Int) / 16) (a : Int) = (y : Int) ∧ bits .and .u32 (y : Int) 15 = (i : Int) ∧ w.cell? ⟨2, i, none⟩ = some (.int .u32 (b : Int)) ∧ (y = Nat.xor (Nat.shiftRight x 4) a ∧ b = ctab.getD i 0 ∧ i = Nat.land y 15) := by
  have e : Nat.shiftRight x 4 = x / 16 := Nat.shiftRight_eq_div_pow x 4
  have hy : Nat.xor (Nat.shiftRight x 4) a < 2 ^ 32 := by rw [e]; exact Nat.xor_lt_two_pow (by omega) (by omega)
  have hi : Nat.xor (Nat.shiftRight x 4) a &&& 15 < 16 := Nat.and_lt_two_pow (n := 4) _ (by omega)
  refine ⟨_, _, ctab.getD (Nat.xor (Nat.shiftRight x 4) a &&& 15) 0, hy, hi, ?_, and15 hy, hg _ hi, rfl, rfl, rfl⟩
  rw [div16, e]
  exact bits_xor_u32_nat _ _ (by omega) ha
set_option maxRecDepth 100000 in
set_option maxHeartbeats 2000000 in
theorem update_w (s b off len cap : Nat) (bs : List Nat) (w : World) (hs : s < 4294967296) (hlen : bs.length = len) (hmax : len ≤ 1000000) (hb : ∀ j, bs.getD j 0 < 256)
    (hc : ∀ j, j < len → w.cell? ⟨b, off + j, none⟩ = some (.int .u8 (bs.getD j 0 : Nat)))
    (hg : ∀ i, i < 16 → w.cell? ⟨2, i, none⟩ = some (.int .u32 (ctab.getD i 0 : Nat))) :
    Calls Tryz.prog 410 #[.int .u32 (s : Int), .slice (some ⟨b, off, none⟩) len cap] w fun e w' => e = .returned (.int .u32 ((4294967295 - crcN bs (4294967295 - s) : Nat) : Int)) ∧ w' = w := by
  go_enter Tryz.func410, Tryz.ntmps410
  go_wp2
  have e0 : bits BinOp.xor IntKind.u32 IntKind.u32.max (s : Int) = ((4294967295 - s : Nat) : Int) := by
    rw [show IntKind.u32.max = ((4294967295 : Nat) : Int) from rfl, bits_xor_u32_nat _ _ (by omega) hs, xor_ones hs]
  rw [e0]
  go_loop [5, 12] (fun r i => ∃ (k R : Nat), k ≤ len ∧ i = .int .i64 (k : Int) ∧ r = .int .u32 (R : Int) ∧ R < 4294967296 ∧ crcN bs (4294967295 - s) = crcN (bs.drop k) R) (fun _ i => len - (intOf i).toNat)
  case atStart => exact ⟨0, _, by omega, rfl, rfl, by omega, rfl⟩
  case round =>
    obtain ⟨k, R, hk, rfl, rfl, hR, hd⟩ := hrel
    obtain ⟨v, hv0⟩ : ∃ v, v = bs.getD k 0 := ⟨_, rfl⟩
    have hcell : k < len → w.cell? ⟨b, off + k, none⟩ = some (.int .u8 (v : Int)) := fun h => by rw [hv0]; exact hc k h
    have hv : v < 256 := by rw [hv0]; exact hb k
    obtain ⟨x1, i1, a1, l1, m1, f1, f2, c1, n1⟩ := first_round w R v hR hv hg
    obtain ⟨x2, i2, a2, l2, m2, f3, f4, c2, n2⟩ := nib_round w x1 a1 l1 (by rw [n1.1]; exact ctab_lt _ m1) hg
    obtain ⟨x3, i3, a3, l3, m3, f5, _, _, n3⟩ := nib_round w x2 a2 l2 (by rw [n2.2.1]; exact ctab_lt _ m2) hg
    have hx : x3 = nibN (nibN (R ^^^ v)) := by
      rw [n3.1, n2.2.1, n2.2.2, n2.1, n1.1, n1.2.1, n1.2.2]
      rfl
    have HX : Hid (k < len → crcN (bs.drop k) R = crcN (bs.drop (k + 1)) x3) := fun h => by
      rw [List.drop_eq_getElem_cons (by omega), crcN, hx, hv0]
      congr 3
      simp [List.getD, List.getElem?_eq_getElem (show k < bs.length by omega)]
    have HE : Hid (¬ k < len → crcN (bs.drop k) R = R) := fun h => by rw [List.drop_eq_nil_of_le (by omega)]; rfl
    have HD : Hid (crcN bs (4294967295 - s) = crcN (bs.drop k) R) := hd
    have E1 : bits BinOp.and IntKind.u32 (bits BinOp.xor IntKind.u32 (R : Int) (v : Int)) 15 = (i1 : Int) := by rw [f1]; exact f2
    have E2 : bits BinOp.and IntKind.u32 (bits BinOp.xor IntKind.u32 (bits BinOp.xor IntKind.u32 (R : Int) (v : Int) / 16) (a1 : Int)) 15 = (i2 : Int) := by rw [f1, f3]; exact f4
    have E3 : bits BinOp.xor IntKind.u32 (bits BinOp.xor IntKind.u32 (bits BinOp.xor IntKind.u32 (R : Int) (v : Int) / 16) (a1 : Int) / 16) (a2 : Int) = (x3 : Int) := by rw [f1, f3]; exact f5
    have C1 : w.cell? ⟨2, (bits BinOp.and IntKind.u32 (bits BinOp.xor IntKind.u32 (R : Int) (v : Int)) 15).toNat, none⟩ = some (.int .u32 (a1 : Int)) := by rw [E1, Int.toNat_natCast]; exact c1
    have C2 : w.cell? ⟨2, (bits BinOp.and IntKind.u32 (bits BinOp.xor IntKind.u32 (bits BinOp.xor IntKind.u32 (R : Int) (v : Int) / 16) (a1 : Int)) 15).toNat, none⟩ = some (.int .u32 (a2 : Int)) := by rw [E2, Int.toNat_natCast]; exact c2
    have G1 : 0 ≤ bits BinOp.and IntKind.u32 (bits BinOp.xor IntKind.u32 (R : Int) (v : Int)) 15 ∧ bits BinOp.and IntKind.u32 (bits BinOp.xor IntKind.u32 (R : Int) (v : Int)) 15 < 16 := by rw [E1]; omega
    have G2 : 0 ≤ bits BinOp.and IntKind.u32 (bits BinOp.xor IntKind.u32 (bits BinOp.xor IntKind.u32 (R : Int) (v : Int) / 16) (a1 : Int)) 15 ∧ bits BinOp.and IntKind.u32 (bits BinOp.xor IntKind.u32 (bits BinOp.xor IntKind.u32 (R : Int) (v : Int) / 16) (a1 : Int)) 15 < 16 := by rw [E2]; omega
    obtain ⟨G1a, G1b⟩ := G1
    obtain ⟨G2a, G2b⟩ := G2
    have HE3 : Hid (bits BinOp.xor IntKind.u32 (bits BinOp.xor IntKind.u32 (bits BinOp.xor IntKind.u32 (R : Int) (v : Int) / 16) (a1 : Int) / 16) (a2 : Int) = (x3 : Int)) := E3
    clear hd hc hb hg e0 n1 n2 n3 hx hv0 E1 E2 E3 f1 f2 f3 f4 f5 c1 c2
    go_wp2
    · have hlt : k < len := by assumption
      go_round
      case rel => exact ⟨k + 1, x3, by omega, by go_num, by rw [HE3.out], l3, by rw [HD.out, HX.out hlt]⟩
      case measure => simp [intOf]; omega
    · have hge : ¬ k < len := by assumption
      have e9 : bits BinOp.xor IntKind.u32 IntKind.u32.max (R : Int) = ((4294967295 - R : Nat) : Int) := by
        rw [show IntKind.u32.max = ((4294967295 : Nat) : Int) from rfl, bits_xor_u32_nat _ _ (by omega) hR, xor_ones hR]
      rw [HD.out, HE.out hge]
      go_ret
      refine ⟨?_, rfl⟩
      rw [e9]
      rfl
end Go.Proofs.YtbmiedinclieaaaGreatDoor

namespace Go.Proofs.YtbmiedinclieaaaGreatDoor
open Go.Clo
theorem neq_nil (w : World) (x y : Operand) : (eqGuard .neq 20 x (.const .nilIface) .nilIface .nilIface).run Tryz.prog w = .ok () w := by cases x <;> rfl
theorem neq_nil2 (w : World) : (binOp .neq 20 .nilIface .nilIface).run Tryz.prog w = .ok (.bool false) w := by
  have h0 : ∀ d, (Op.equalIn (d + 1) 20 .nilIface .nilIface).run Tryz.prog w = .ok true w := fun d => by simp [Op.equalIn, run_underlying Tryz.underlying20]
  have := h0 9999
  have e : binOp .neq 20 .nilIface .nilIface = (do let r ← Op.equalIn (9999 + 1) 20 .nilIface .nilIface; pure (.bool !r) : Sem Value) := rfl
  rw [e]; simp only [Sem.run_bind, this, Result.andThen_ok]; rfl
theorem idle35 (a b : Value) (w : World) : CallsD Tryz.prog 89 #[a, b] .returning w fun e u' w' => u' = .returning ∧ e = .returned (.tuple #[]) ∧ w' = w := by
  refine callsD_of_wpS Tryz.func89 rfl fun c₀ cs hu => ?_
  apply wpS_seq
  apply wpS_region
  simp [wpOpsS, go_sem, recoverD, hu, Tryz.ntmps89, Exit.thenS]
  apply wpS_seq
  apply wpS_region
  simp [wpOpsS, go_sem, hu, Exit.thenS, neq_nil, neq_nil2]
  refine wpS_cond (t := false) (by simp [Act.eval, Array.replicate]) ?_
  simp only [Bool.false_eq_true, if_false]
  refine wpS_of_wp (wp_skip ?_)
  cases c₀
  simp_all [bodyPostS, results, Tryz.results89]
theorem idle50 (a b c : Value) (w : World) : CallsD Tryz.prog 102 #[a, b, c] .returning w fun e u' w' => u' = .returning ∧ e = .returned (.tuple #[]) ∧ w' = w := by
  refine callsD_of_wpS Tryz.func102 rfl fun c₀ cs hu => ?_
  apply wpS_seq
  apply wpS_region
  simp [wpOpsS, go_sem, recoverD, hu, Tryz.ntmps102, Exit.thenS]
  apply wpS_seq
  apply wpS_region
  simp [wpOpsS, go_sem, hu, Exit.thenS, neq_nil, neq_nil2]
  refine wpS_cond (t := false) (by simp [Act.eval, Array.replicate]) ?_
  simp only [Bool.false_eq_true, if_false]
  refine wpS_of_wp (wp_skip ?_)
  cases c₀
  simp_all [bodyPostS, results, Tryz.results102]
theorem dok_ok : DfrOK Tryz.prog dok := by
  intro g m h
  unfold dok at h
  rw [Bool.or_eq_true, Bool.and_eq_true, Bool.and_eq_true] at h
  rcases h with ⟨h1, h2⟩ | ⟨h1, h2⟩
  · have h1 := Nat.eq_of_beq_eq_true h1
    have h2 := Nat.eq_of_beq_eq_true h2
    subst h1; subst h2
    refine ⟨⟨_, _, Tryz.func89, rfl, by kernel_rfl⟩, fun args w hs => ?_⟩
    obtain ⟨a, b, rfl⟩ : ∃ a b, args = #[a, b] := by
      have : args.toList.length = 2 := by simpa using hs
      match hy : args.toList, this with
      | [p, q], _ => exact ⟨p, q, by rw [← Array.toArray_toList (xs := args), hy]⟩
    exact idle35 a b w
  · have h1 := Nat.eq_of_beq_eq_true h1
    have h2 := Nat.eq_of_beq_eq_true h2
    subst h1; subst h2
    refine ⟨⟨_, _, Tryz.func102, rfl, by kernel_rfl⟩, fun args w hs => ?_⟩
    obtain ⟨a, b, c, rfl⟩ : ∃ a b c, args = #[a, b, c] := by
      have : args.toList.length = 3 := by simpa using hs
      match hy : args.toList, this with
      | [p, q, r], _ => exact ⟨p, q, r, by rw [← Array.toArray_toList (xs := args), hy]⟩
    exact idle50 a b c w
end Go.Proofs.YtbmiedinclieaaaGreatDoor

namespace Go.Clo
theorem row_cells {F : FM} {t : Tgt} {b : Blk} {c : List Value} {w : World} (h : BR F t b w) (hrow : b.row = some c) {o m : Nat} {l : List Value} (hl : takeN m (c.drop o) = some l) (hfl : l.all flat1 = true) :
    (∀ j v, l[j]? = some v → w.cell? ⟨t.blk, t.base + o + j, none⟩ = some v) ∧ l.length = m := by
  obtain ⟨e1, e2⟩ := takeN_eq hl
  obtain ⟨c', e, mk, h1, h5, h6⟩ := h.row hrow
  have hv : VL F l (((((c'.toList.drop t.base).take c.length).drop o).take m)) := by rw [e1]; exact (h6.drop o).take m
  have e3 := flatL_eq hv hfl
  refine ⟨fun j v hj => ?_, e2⟩
  rw [← e3] at hj
  have hj2 : j < m := by
    rcases Nat.lt_or_ge j m with g | g
    · exact g
    · simp [List.getElem?_take, Nat.not_lt.2 g] at hj
  have hoc : o + j < c.length := by
    rcases Nat.lt_or_ge (o + j) c.length with g | g
    · exact g
    · simp [List.getElem?_take, hj2, Nat.not_lt.2 g] at hj
  simp [List.getElem?_take, hj2, hoc] at hj
  simp [World.cell?, h1, Nat.add_assoc, hj]
/-- What a slice's row is in the world. -/
inductive RowW (w : World) (l : List Value) : Value → Prop
  | nil {c : Nat} (h : l = []) : RowW w l (.slice none 0 c)
  | row {b o c : Nat} (h : ∀ j v, l[j]? = some v → w.cell? ⟨b, o + j, none⟩ = some v) : RowW w l (.slice (some ⟨b, o, none⟩) l.length c)
end Go.Clo
namespace Go.Proofs.YtbmiedinclieaaaGreatDoor
open Go.Clo
theorem rowK_inv {H : Heap} {a : Addr} {n : Nat} {k : List Value → Option (Value × Heap × Nat)} {r : Value × Heap × Nat} (h : rowK H a n none k = some r) :
    ∃ b o blk c l, a = ⟨b, o, none⟩ ∧ getH H b = some blk ∧ blk.row = some c ∧ takeN n (c.drop o) = some l ∧ k l = some r := by
  obtain ⟨b, o, s⟩ := a
  unfold rowK at h
  cases s with
  | some q => cases h
  | none =>
    dsimp only at h
    rw [getB_eq] at h
    cases hg : getH H b with
    | none => rw [hg] at h; cases h
    | some blk =>
      rw [hg] at h
      dsimp only [Option.elim_some] at h
      split at h
      · split at h
        · rename_i l hl
          rw [spine_eq] at h
          exact ⟨b, o, _, _, l, rfl, hg, rfl, hl, h⟩
        · cases h
      · split at h
        · rename_i l hl
          rw [spine_eq] at h
          exact ⟨b, o, _, _, l, rfl, hg, rfl, hl, h⟩
        · cases h
      · cases h
theorem rowK_world {H : Heap} {a : Addr} {n cap : Nat} {k : List Value → Option (Value × Heap × Nat)} {r : Value × Heap × Nat} (h : rowK H a n none k = some r) : ∃ l, k l = some r ∧
    ∀ {F : FM} {nx : Nat} {w : World} {v' : Value}, HR F H nx w → VR F (.slice (some a) n cap) v' → l.all flat1 = true → RowW w l v' := by
  obtain ⟨b, o, blk, c, l, rfl, hg, hrow, hl, hk⟩ := rowK_inv h
  refine ⟨l, hk, fun {F nx w v'} hr hv hfl => ?_⟩
  obtain ⟨_, t, c', hF, h3, _⟩ := hv.slice_inv
  obtain ⟨h1, h2⟩ := row_cells (hr.hb.get hF hg) hrow hl hfl
  subst h3
  rw [← h2]
  exact .row h1
theorem sliceK_world {H : Heap} {v : Value} {k : List Value → Option (Value × Heap × Nat)} {r : Value × Heap × Nat} (h : sliceK H v k = some r) : ∃ l, k l = some r ∧
    ∀ {F : FM} {nx : Nat} {w : World} {v' : Value}, HR F H nx w → VR F v v' → l.all flat1 = true → RowW w l v' := by
  unfold sliceK at h
  split at h
  · refine ⟨[], h, fun {F nx w v'} hr hv _ => ?_⟩
    have := hv.sliceN_inv
    subst this
    exact .nil rfl
  · exact rowK_world h
  · cases h

/-! bytes.Compare. -/
theorem bytesA_flat {l : List Value} {bs : List UInt8} (h : bytesA l = some bs) : l = (bs.map fun b => (b.toNat : Int)).map (Value.int .u8) ∧ l.all flat1 = true := by
  have := bytesA_spec h
  exact ⟨this, by rw [this]; exact ints_flat _⟩
theorem run_loadBytes {P : Program} (w : World) (B : Nat) : ∀ (bs : List UInt8) (o : Nat) (acc : ByteArray), (∀ j b, bs[j]? = some b → w.cell? ⟨B, o + j, none⟩ = some (.int .u8 (b.toNat : Int))) →
    (Extern.Bytes.loadBytes ⟨B, o, none⟩ bs.length acc).run P w = .ok (bs.foldl ByteArray.push acc) w
  | [], o, acc, h => rfl
  | b :: bs, o, acc, h => by
    have h0 := h 0 b rfl
    rw [Nat.add_zero] at h0
    have e : b.toNat.toUInt8 = b := by simp
    have ih := run_loadBytes (P := P) w B bs (o + 1) (acc.push b) fun j b' hj => by
      have := h (j + 1) b' (by simpa using hj)
      rw [show o + (j + 1) = o + 1 + j by omega] at this
      exact this
    simp only [List.length_cons, Extern.Bytes.loadBytes, Sem.run_bind, run_load, h0, Result.andThen_ok, add_addr, Int.toNat_natCast, e, ih, List.foldl_cons]
theorem push_fold : ∀ (bs : List UInt8) (acc : ByteArray), (bs.foldl ByteArray.push acc).data.toList = acc.data.toList ++ bs
  | [], acc => by simp
  | b :: bs, acc => by rw [List.foldl_cons, push_fold bs]; simp [ByteArray.push]
theorem run_bytesOf {P : Program} {w : World} {bs : List UInt8} {v : Value} (h : RowW w ((bs.map fun b => (b.toNat : Int)).map (Value.int .u8)) v) : ∃ s : ByteArray, (Extern.Bytes.bytesOf v).run P w = .ok s w ∧ s.data.toList = bs := by
  cases h with
  | nil h =>
    refine ⟨.empty, rfl, ?_⟩
    cases bs with
    | nil => rfl
    | cons b bs => simp at h
  | @row b o c h =>
    refine ⟨bs.foldl ByteArray.push .empty, ?_, by rw [push_fold]; rfl⟩
    have := run_loadBytes (P := P) w b bs o .empty fun j x hj => h j _ (by simp [hj])
    simpa [Extern.Bytes.bytesOf] using this
theorem run_cmp {P : Program} {w : World} {x y : List UInt8} {a b : Value} (ha : RowW w ((x.map fun b => (b.toNat : Int)).map (Value.int .u8)) a) (hb : RowW w ((y.map fun b => (b.toNat : Int)).map (Value.int .u8)) b) :
    (Extern.BytealgCompare.compare #[a, b]).run P w = .ok (.int .i64 (Lib.compareBytes x y)) w := by
  obtain ⟨s, h1, rfl⟩ := run_bytesOf (P := P) ha
  obtain ⟨t, h2, rfl⟩ := run_bytesOf (P := P) hb
  change Sem.run P (do pure (goInt (Extern.BytealgCompare.cmp (← Extern.Bytes.bytesOf a) (← Extern.Bytes.bytesOf b)))) w = _
  simp only [Sem.run_bind, h1, h2, Sem.run_pure, Result.andThen_ok]
  rw [Lib.cmp_eq]
  rfl
set_option maxRecDepth 100000 in
theorem bcompare_w (a b : Value) (x y : List UInt8) (w : World) (ha : RowW w ((x.map fun b => (b.toNat : Int)).map (Value.int .u8)) a) (hb : RowW w ((y.map fun b => (b.toNat : Int)).map (Value.int .u8)) b) :
    Calls Tryz.prog 413 #[a, b] w fun e w' => e = .returned (.int .i64 (Lib.compareBytes x y)) ∧ w' = w := by
  have hc := run_cmp (P := Tryz.prog) ha hb
  clear ha hb
  go_enter Tryz.func413, Tryz.ntmps413
  go_wp2
  rw [run_callFunc_extern Tryz.func470 (by kernel_rfl) (by kernel_rfl) (by kernel_rfl) (e := Extern.BytealgCompare.compare) (by kernel_rfl), hc]
  simp only [Result.andThen]
  rw [Oper.upon_value]
  go_wp2
  go_ret
  exact ⟨rfl, rfl⟩
theorem enters304 : Go.Clo.Enters Tryz.prog 413 := ⟨_, _, Tryz.func413, rfl, by kernel_rfl⟩
theorem below_self {w : World} : RowKit.Below w.heap.size w w := RowKit.Below.refl _ w
/-- The step of a call that answers a plain value and only grows the world. -/
theorem stp_below {F : FM} {H : Heap} {nx : Nat} {w w' : World} (hr : HR F H nx w) (hb : RowKit.Below w.heap.size w w') : Stp F H nx w F H nx w' :=
  ⟨Nat.le_refl _, fun _ _ => rfl, hb.os, hb.tape, hb.output, hb.size, fun k hk _ => hb.block k hk, fun b hb => .inl hb, fun i _ h => h, fun i b hg _ => ⟨hr.low hg, hg⟩,
   ⟨fun i b hi hg => let ⟨t, h1, h2⟩ := hr.blk i b hi hg; ⟨t, h1, h2.mono (fun _ _ h => h) (hb.block _ h2.lt)⟩, hr.inj, hr.fresh, hr.top, hr.gl.step (fun k hk _ => hb.block k hk) fun b hb => .inl hb⟩⟩
theorem bcompareO_ok {args : List Value} {H : Heap} {nx : Nat} {v : Value} {H' : Heap} {nx' : Nat} (h : bcompareO args H nx = some (v, H', nx')) : CS Tryz.prog 413 args H nx v H' nx' := by
  unfold bcompareO at h
  split at h
  · rename_i a b
    obtain ⟨x, h, hx⟩ := sliceK_world h
    obtain ⟨y, h, hy⟩ := sliceK_world h
    split at h
    · rename_i x' y' e1 e2
      rw [forceI_eq] at h; cases h
      obtain ⟨f1, f2⟩ := bytesA_flat e1
      obtain ⟨g1, g2⟩ := bytesA_flat e2
      refine ⟨enters304, fun F args' w hr hv => ?_⟩
      cases hv with
      | cons hv hv2 =>
      cases hv2 with
      | cons hv2 hv3 =>
      cases hv3
      have r1 := hx hr hv f2
      have r2 := hy hr hv2 g2
      rw [f1] at r1
      rw [g1] at r2
      refine (bcompare_w _ _ x' y' w r1 r2).mono fun e w' ⟨he, hw⟩ => ?_
      subst hw
      exact ⟨_, F, he, .int _ _, stp_below hr below_self⟩
    · cases h
  · cases h
end Go.Proofs.YtbmiedinclieaaaGreatDoor

namespace Go.Clo
/-- A function of values alone that reads the listed package variables. -/
theorem cs_flatG {P : Program} {f : FuncId} {args : List Value} {v : Value} (hE : Enters P f) (ha : args.all flat1 = true) (hv : flat v = true) (h : ∀ w, GlW w → Calls P f args.toArray w fun e w' => e = .returned v ∧ RowKit.Below w.heap.size w w') (H : Heap) (nx : Nat) :
    CS P f args H nx v H nx := by
  refine ⟨hE, fun F args' w hr hl => ?_⟩
  have e := flatL_eq hl ha
  subst e
  refine (h w hr.gl.1).mono fun e w' ⟨he, hb⟩ => ⟨v, F, he, flat_refl F v hv, ⟨Nat.le_refl _, fun _ _ => rfl, hb.os, hb.tape, hb.output, hb.size, fun k hk _ => hb.block k hk, fun b hb => .inl hb, fun i _ h => h, fun i b hg _ => ⟨hr.low hg, hg⟩, ?_⟩⟩
  exact ⟨fun i b hi hg => let ⟨t, h1, h2⟩ := hr.blk i b hi hg; ⟨t, h1, h2.mono (fun _ _ h => h) (hb.block _ h2.lt)⟩, hr.inj, hr.fresh, hr.top, hr.gl.step (fun k hk _ => hb.block k hk) fun b hb => .inl hb⟩
end Go.Clo
namespace Go.Proofs.YtbmiedinclieaaaGreatDoor
open Go.Clo
-- strings.Clone
open Go.RowKit in
theorem clone_w (s : ByteArray) (w : World) (hs : s.size ≤ 1000) : Calls Tryz.prog 192 #[.string s] w fun e w' => e = .returned (.string s) ∧ Below w.heap.size w w' := by
  have hc := fun W => Any.stringslite_Clone Tryz.laysM316 s W (by omega)
  change ∀ W, Calls Tryz.prog 297 _ _ _ at hc
  clear hs
  go_enter Tryz.func192, Tryz.ntmps192
  go_wp2_with (go_at_call 297; refine (hc _).mono ?_; rintro e w' ⟨rfl, hb⟩)
  go_ret
  exact ⟨rfl, hb⟩
theorem enClone : Go.Clo.Enters Tryz.prog 192 := ⟨_, _, Tryz.func192, rfl, by kernel_rfl⟩
theorem cloneO_ok {args : List Value} {H : Heap} {nx : Nat} {v : Value} {H' : Heap} {nx' : Nat} (h : cloneO args H nx = some (v, H', nx')) : CS Tryz.prog 192 args H nx v H' nx' := by
  unfold cloneO at h
  split at h
  · rename_i s
    cases hb : Nat.ble s.size 1000 with
    | false => rw [hb] at h; cases h
    | true =>
      rw [hb] at h; cases h
      exact cs_flatG enClone rfl rfl (fun w _ => clone_w s w (Nat.le_of_ble_eq_true hb)) H nx
  · cases h
theorem cell_of {w : World} {b i : Nat} {l : List Value} {e : TypeId} {m : Nat × Nat} {v : Value} (hc : w.heap[b]? = some (.cells ⟨l⟩ e m)) (hi : l[i]? = some v) : w.cell? ⟨b, i, none⟩ = some v := by simp [World.cell?, hc, hi]
theorem glw_crc {w : World} (h : GlW w) {i : Nat} (hi : i < 16) : w.cell? ⟨2, i, none⟩ = some (.int .u32 (ctab.getD i 0 : Nat)) := by
  obtain ⟨_, e, m, hc⟩ := h _ (List.mem_cons_self ..)
  have h1 : i < ctab.length := hi
  refine cell_of hc ?_
  rw [List.getElem?_map, List.getElem?_eq_getElem h1, List.getD, List.getElem?_eq_getElem h1]
  rfl
-- strings.Compare
theorem enCompare : Go.Clo.Enters Tryz.prog 330 := ⟨_, _, Tryz.func330, rfl, by kernel_rfl⟩
theorem compareO_ok {args : List Value} {H : Heap} {nx : Nat} {v : Value} {H' : Heap} {nx' : Nat} (h : compareO args H nx = some (v, H', nx')) : CS Tryz.prog 330 args H nx v H' nx' := by
  unfold compareO at h
  split at h
  · rename_i a b
    rw [forceI_eq] at h; cases h
    exact cs_flatG enCompare rfl rfl (fun w _ => Calls.mono (show Calls Tryz.prog 330 #[.string a, .string b] w _ from Any.strings_Compare Tryz.lays106 a b w) fun e w' ⟨h1, h2⟩ => ⟨h1, h2 ▸ below_self⟩) H nx
  · cases h
-- maps.Clone
theorem mcloneG {f : FuncId} (hE : Go.Clo.Enters Tryz.prog f) (h1 : ∀ (b : Nat) (es : Array MapEntry) (c : Nat) (w : World), w.heap[b]? = some (.map es c) → Calls Tryz.prog f #[.map (some b)] w fun e w' => e = .returned (.map (some w.heap.size)) ∧ w' = w.alloc (.map es c))
    (h2 : ∀ w : World, Calls Tryz.prog f #[.map none] w fun e w' => e = .returned (.map none) ∧ w' = w) {args : List Value} {H : Heap} {nx : Nat} {v : Value} {H' : Heap} {nx' : Nat} (h : mcloneO args H nx = some (v, H', nx')) : CS Tryz.prog f args H nx v H' nx' := by
  unfold mcloneO at h
  split at h
  · cases h
    exact cs_flatG hE rfl rfl (fun w _ => (h2 w).mono fun e w' ⟨h1, h2⟩ => ⟨h1, h2 ▸ below_self⟩) H nx
  · rename_i r
    rw [getB_eq] at h
    cases hg : getH H r with
    | none => rw [hg] at h; cases h
    | some blk =>
      rw [hg] at h
      dsimp only [Option.elim_some] at h
      split at h
      · rename_i es k
        rw [hsK_eq, forceN_eq] at h; cases h
        refine ⟨hE, fun F args' w hr hv => ?_⟩
        cases hv with
        | cons hv hv2 =>
        cases hv2
        cases hv with
        | @map _ t hF =>
        obtain ⟨hb0, es', c', hw, hcl, hel, hst⟩ := hr.hb.get hF hg
        refine (h1 t.blk es' c' w hw).mono fun e w' ⟨he, hw'⟩ => ?_
        subst hw'
        have hfresh : F nx = none := hr.fresh nx (Nat.le_refl _)
        refine ⟨_, upd F nx ⟨w.heap.size, 0, 0, 0, 0⟩, he, VR.map (upd_same F nx ⟨w.heap.size, 0, 0, 0, 0⟩), Stp.name hr rfl rfl rfl rfl (by simp) (fun k hk => alloc_get w _ k hk) ⟨rfl, es', c', alloc_top w _, hcl, hel.mono (upd_le hfresh _), hst⟩ (Nat.le_refl _)⟩
      · cases h
  · cases h
-- slices.Grow
theorem zero_list (z : Value) (n : Nat) : (Builtin.zeroCells #[z] n).toList = List.replicate n z := by
  apply List.ext_getElem
  · simp [Builtin.zeroCells]
  · intro i h1 h2
    simp [Builtin.zeroCells, Nat.mod_one]
open Go.RowKit Go.Shelf in
theorem growW {ρ : Ren} (L : Go.Proofs.Lays8.n4 Tryz.prog ρ) {z : Value} {by8 : Nat} (hi9 : (Tryz.prog.info? (ρ.t 25)).map (fun i => (i.zero, i.size, i.bytes)) = some (some z, 1, by8)) (hz : z.cells = #[z]) (h8 : by8 ≤ 1000) (n : Nat) (h0 : 0 < n) (hn : n ≤ 100000) (w : World) :
    Calls Tryz.prog (ρ.f 4) #[.slice none 0 0, .int .i64 (n : Int)] w fun e w' => ∃ (G : Nat) (cur : Array Value), e = .returned (.slice (some ⟨w.heap.size, 0, none⟩) 0 G) ∧ (n ≤ G ∧ G ≤ 9223372036854775807) ∧ Below w.heap.size w w' ∧
    w'.heap[w.heap.size]? = some (.cells cur (ρ.t 25) (0, 0)) ∧ cur.size = G ∧ cur.toList.take n = List.replicate n z := by
  obtain ⟨i0, hi, hz0, hz1, hz2⟩ := info_parts hi9
  have hc := Any8.slices_Grow_grow L i0 z hi hz0 (by omega) none 0 0 n [] w (Nat.le_refl _) (by omega) (by rw [hz2]; exact Nat.le_trans (Nat.mul_le_mul (show 0 + n ≤ 100000 by omega) h8) (by omega)) (by omega) (by simp) (fun _ => rfl) (fun a h => by cases h)
  refine Calls.mono hc ?_
  rintro e w' ⟨rfl, rfl⟩
  have hG := grownCap_ge w (0 + n) 0 (ρ.t 25)
  refine ⟨_, (#[] ++ Builtin.zeroCells z.cells (0 + n - 0) ++ Builtin.zeroCells z.cells (grownCap w (0 + n) 0 (ρ.t 25) - (0 + n))), rfl, ⟨by omega, by have := grownCap_le_maxLen w (0 + n) 0 (ρ.t 25) (by unfold maxLen; omega); unfold maxLen at this; omega⟩, ((RowKit.Below.refl _ w).drew).alloc (Nat.le_refl _) _, ?_, ?_, ?_⟩
  · show (w.heap.push _)[w.heap.size]? = _
    rw [Array.getElem?_push_size]
  · rw [hz]
    have hz : ∀ m, (Builtin.zeroCells #[z] m).size = m := fun m => by
      have := congrArg List.length (zero_list z m)
      rw [Array.length_toList, List.length_replicate] at this
      exact this
    rw [Array.size_append, Array.size_append, hz, hz]
    simp only [Array.size_empty]
    omega
  · simp only [Array.toList_append, List.nil_append]
    rw [hz, zero_list, zero_list]
    simp
theorem repl_flat (z : Value) (hz : flat1 z = true) (n : Nat) : (List.replicate n z).all flat1 = true := by
  rw [List.all_eq_true]
  intro v hv
  rw [List.eq_of_mem_replicate hv]; exact hz
theorem growG {ρ : Go.Shelf.Ren} (L : Go.Proofs.Lays8.n4 Tryz.prog ρ) {z : Value} {by8 : Nat} (hi9 : (Tryz.prog.info? (ρ.t 25)).map (fun i => (i.zero, i.size, i.bytes)) = some (some z, 1, by8)) (hz : z.cells = #[z]) (hzf : flat1 z = true) (h8 : by8 ≤ 1000) (hE : Go.Clo.Enters Tryz.prog (ρ.f 4))
    {args : List Value} {H : Heap} {nx : Nat} {v : Value} {H' : Heap} {nx' : Nat} (h : growO z args H nx = some (v, H', nx')) : CS Tryz.prog (ρ.f 4) args H nx v H' nx' := by
  unfold growO at h
  split at h
  · rename_i n
    cases hb : Nat.beq n 0 with
    | true =>
      rw [hb] at h; cases h
      have := Nat.eq_of_beq_eq_true hb
      subst this
      exact cs_flatG hE rfl rfl (fun w _ => Calls.mono (Any8.slices_Grow_room L none 0 0 0 w (Nat.le_refl _) (by omega) (by omega) (Nat.le_refl _)) fun e w' ⟨h1, h2⟩ => ⟨h1, h2 ▸ below_self⟩) H nx
    | false =>
      rw [hb] at h
      simp only [cond_false] at h
      cases hn : Nat.ble n 100000 with
      | false => rw [hn] at h; cases h
      | true =>
        rw [hn] at h
        simp only [cond_true] at h
        rw [Go.Clo.spine_eq, hsK_eq, forceN_eq] at h; cases h
        have h0 : 0 < n := by
          rcases Nat.eq_zero_or_pos n with e | e
          · subst e; cases hb
          · exact e
        refine ⟨hE, fun F args' w hh hl => ?_⟩
        have e := flatL_eq hl rfl
        subst e
        refine Calls.mono (growW L hi9 hz h8 n h0 (Nat.le_of_ble_eq_true hn) w) ?_
        rintro e w' ⟨G, cur, he, hG, hb, hc, hsz, htk⟩
        have hl : (List.replicate n z).length = n := List.length_replicate
        refine ⟨_, upd F nx ⟨w.heap.size, 0, n, 1, G⟩, he, ?_, Stp.name hh rfl hb.os hb.tape hb.output hb.size (fun k hk => hb.block k hk) ?_ (Nat.le_refl _)⟩
        · have := VR.slice (F := upd F nx ⟨w.heap.size, 0, n, 1, G⟩) (b := nx) (o := 0) (n := 0) (c := n) (c' := G) (t := ⟨w.heap.size, 0, n, 1, G⟩) (upd_same _ _ _) (.inr ⟨Nat.one_pos, hG.1, by simp, by simp, hG.2⟩)
          exact this
        · refine ⟨cur, _, _, hc, ⟨hsz, TyOK.low _ (by omega), FzOK.none _⟩, ?_, rfl, by rw [hl]; simpa using hG.1, ?_⟩
          · exact hl.symm
          · simp only [List.drop_zero]
            rw [hl, htk]
            exact flatL_refl _ _ (repl_flat z hzf n)
  · cases h
end Go.Proofs.YtbmiedinclieaaaGreatDoor

namespace Go.Proofs.YtbmiedinclieaaaGreatDoor
open Go.Clo

theorem u64_wrap {n : Nat} (h : n < 18446744073709551616) : IntKind.u64.wrap (n : Int) = n := by
  simp only [IntKind.wrap, IntKind.signed, IntKind.bits]
  simp
  omega
theorem ofInt_nat64 (a : Nat) : BitVec.ofInt 64 (a : Int) = BitVec.ofNat 64 a := by
  apply BitVec.eq_of_toNat_eq
  simp
theorem wBin_or64 {a b : Nat} (ha : a < 18446744073709551616) (hb : b < 18446744073709551616) (k : VP) : wBin .or (.int .u64 (a : Int)) (.int .u64 (b : Int)) k = k (.int .u64 ((a ||| b : Nat) : Int)) := by
  rw [wBin_eq]
  show k (.int .u64 (IntKind.u64.wrap ((BitVec.ofInt 64 (a : Int) ||| BitVec.ofInt 64 (b : Int)).toNat : Int))) = _
  have h : a ||| b < 2 ^ 64 := Nat.or_lt_two_pow (by simpa using ha) (by simpa using hb)
  rw [ofInt_nat64, ofInt_nat64, BitVec.toNat_or, BitVec.toNat_ofNat, BitVec.toNat_ofNat, Nat.mod_eq_of_lt (by simpa using ha), Nat.mod_eq_of_lt (by simpa using hb), u64_wrap (by simpa using h)]
theorem wBin_shl64 {a n : Nat} {K : IntKind} (hn : n < 64) (h : a * 2 ^ n < 18446744073709551616) (k : VP) : wBin .shl (.int .u64 (a : Int)) (.int K (n : Int)) k = k (.int .u64 ((a * 2 ^ n : Nat) : Int)) := by
  rw [wBin_eq]
  have h0 : ¬ (n : Int) < 0 := by omega
  simp only [binV, isShift, shiftV, cond_true, h0, if_false, Option.elim_some, IntKind.bits]
  congr 2
  have e : ((a : Int) * (2 : Int) ^ min ((n : Int)).toNat 64) = ((a * 2 ^ n : Nat) : Int) := by
    have : min n 64 = n := by omega
    simp [this]
  rw [e, u64_wrap h]
theorem conv64 {n : Nat} (K : IntKind) (h : n < 18446744073709551616) (k : VP) : wConv .u64 (.int K (n : Int)) k = k (.int .u64 (n : Int)) := by
  rw [wConv_eq, u64_wrap h]
/-- The first i of some bytes. -/
def leN (l : List Nat) : Nat → Nat
  | 0 => 0
  | i + 1 => leN l i + (l.getD i 0) * 256 ^ i
theorem leN_lt {l : List Nat} (hl : ∀ x ∈ l, x < 256) : ∀ i, leN l i < 256 ^ i
  | 0 => by simp [leN]
  | i + 1 => by
    have ih := leN_lt hl i
    have hx : l.getD i 0 < 256 := by
      rw [List.getD]
      cases h : l[i]? with
      | none => simp
      | some x => exact hl x (List.mem_of_getElem? h)
    show leN l i + l.getD i 0 * 256 ^ i < 256 ^ (i + 1)
    rw [Nat.pow_succ]
    have : l.getD i 0 * 256 ^ i ≤ 255 * 256 ^ i := Nat.mul_le_mul_right _ (by omega)
    omega
theorem le64_cons (x : Nat) (l : List Value) : le64 (.int .u8 (x : Int) :: l) = x + 256 * le64 l := rfl
theorem leN_cons (x : Nat) (l : List Nat) : ∀ i, leN (x :: l) (i + 1) = x + 256 * leN l i
  | 0 => by simp [leN]
  | i + 1 => by
    show leN (x :: l) (i + 1) + (x :: l).getD (i + 1) 0 * 256 ^ (i + 1) = _
    rw [leN_cons x l i]
    show _ = x + 256 * (leN l i + l.getD i 0 * 256 ^ i)
    have : (x :: l).getD (i + 1) 0 = l.getD i 0 := by simp [List.getD]
    rw [this, Nat.pow_succ]
    rw [Nat.mul_add, ← Nat.mul_assoc 256, Nat.mul_comm 256 (l.getD i 0), Nat.mul_assoc (l.getD i 0), Nat.mul_comm 256 (256 ^ i)]
    omega
theorem le64_is : ∀ l : List Nat, le64 (l.map fun (x : Nat) => Value.int .u8 (x : Int)) = leN l l.length
  | [] => rfl
  | x :: l => by
    rw [List.map_cons, le64_cons, le64_is l, List.length_cons, leN_cons]
theorem or_shift {a b i : Nat} (h : a < 256 ^ i) : a ||| (b * 2 ^ (8 * i)) = a + b * 256 ^ i := by
  have e : (2 : Nat) ^ (8 * i) = 256 ^ i := by rw [Nat.pow_mul]
  rw [← Nat.shiftLeft_eq, Nat.or_comm, ← Nat.shiftLeft_add_eq_or_of_lt (by rw [e]; exact h), Nat.shiftLeft_eq, e, Nat.add_comm]
set_option maxHeartbeats 1000000 in
theorem value158 {b o c : Nat} {l : List Nat} {H : Heap} {nx : Nat} (hl : ∀ x ∈ l, x < 256) (h8 : l.length ≤ 8) (hget : ∀ (j x : Nat) (k : VP), l[j]? = some x → ldP (getH H b) (o + j) none k = k (.int .u8 (x : Int))) :
    Ans Tryz.prog 158 [.slice (some ⟨b, o, none⟩) l.length c] H nx fun v H' nx' => .int .u64 ((leN l l.length : Nat) : Int) = v ∧ H = H' ∧ nx = nx' := by
  refine spec158 ?_
  unfold F158
  simp only [W1]
  simp (disch := first|omega|assumption) only [W0, oneCells, Yld.val, Nat.reduceAdd, Nat.reduceMul, Nat.reduceLeDiff]
  refine wLoop_rule (fun m L H' nx' => ∃ i : Nat, m + i = l.length ∧ L = [.int .u64 ((leN l i : Nat) : Int), .int .i64 (i : Int)] ∧ H = H' ∧ nx = nx') ?_ (m := l.length) ⟨0, by omega, rfl, rfl, rfl⟩
  rintro m ih L _ _ ⟨i, hm, rfl, rfl, rfl⟩ hih
  simp (disch := first|omega|assumption) only [W0, oneCells, Yld.val, Nat.reduceAdd, Nat.reduceMul, Nat.reduceLeDiff]
  by_cases hi : i < l.length
  · have hi' : (i : Int) < (l.length : Int) := by omega
    have hx : l[i]? = some l[i] := List.getElem?_eq_getElem hi
    have hx2 := hl _ (List.getElem_mem hi)
    generalize l[i] = x at hx hx2
    have hp : 2 ^ (8 * i) ≤ 2 ^ 56 := Nat.pow_le_pow_right (by omega) (by omega)
    have hs : x * 2 ^ (8 * i) < 18446744073709551616 := by
      have h1 := Nat.mul_le_mul (show x ≤ 255 by omega) hp
      have h2 : 255 * 2 ^ 56 < 18446744073709551616 := by decide
      omega
    have hle : leN l i < 18446744073709551616 := by
      have h1 := leN_lt hl i
      have h2 : 256 ^ i ≤ 256 ^ 7 := Nat.pow_le_pow_right (by omega) (by omega)
      have h3 : 256 ^ 7 < 18446744073709551616 := by decide
      omega
    have hnext : leN l i ||| x * 2 ^ (8 * i) = leN l (i + 1) := by
      rw [or_shift (leN_lt hl i)]
      show _ = leN l i + l.getD i 0 * 256 ^ i
      rw [List.getD, hx]; rfl
    have hc := fun k : VP => conv64 (n := x) .u8 (by omega) k
    have hm8 := fun k : VP => wBin_mul64 (a := 8) (b := (i : Int)) k (by omega) (by omega)
    have e8 : (8 : Int) * (i : Int) = ((8 * i : Nat) : Int) := by omega
    have hsh := fun k : VP => wBin_shl64 (a := x) (n := 8 * i) (K := .i64) (by omega) hs k
    have hor := fun k : VP => wBin_or64 hle hs k
    rw [hnext] at hor
    simp (disch := first|omega|assumption) only [W0, oneCells, Yld.val, Nat.reduceAdd, Nat.reduceMul, Nat.reduceLeDiff, hi', hget i x _ hx, hc, hm8, e8, hsh, hor]
    exact hih (m - 1) _ _ _ (by omega) ⟨i + 1, by omega, by simp, rfl, rfl⟩
  · have hi' : ¬ (i : Int) < (l.length : Int) := by omega
    have e : i = l.length := by omega
    subst e
    simp (disch := first|omega|assumption) only [W0, oneCells, Yld.val, Nat.reduceAdd, Nat.reduceMul, Nat.reduceLeDiff, hi']
theorem byteN_is {v : Value} (h : byteV v = true) : v = .int .u8 (natV v : Nat) ∧ natV v < 256 := by
  unfold byteV at h
  split at h
  · exact ⟨rfl, by rw [Nat.blt_eq] at h; exact h⟩
  · cases h
theorem takeN_inv {α : Type} {n : Nat} {c l : List α} (h : takeN n c = some l) : l = c.take n ∧ n ≤ c.length := by
  rcases Nat.lt_or_ge c.length n with g | g
  · rw [takeN_none g] at h; cases h
  · rw [takeN_some g] at h; cases h; exact ⟨rfl, g⟩
theorem bytes_of {l : List Value} (h : l.all byteV = true) : ∃ xs : List Nat, l = xs.map (fun (x : Nat) => Value.int .u8 (x : Int)) ∧ ∀ x ∈ xs, x < 256 := by
  refine ⟨l.map natV, ?_, fun x hx => ?_⟩
  · rw [List.map_map]
    conv => lhs; rw [← List.map_id l]
    refine List.map_congr_left fun v hv => ?_
    exact (byteN_is (List.all_eq_true.1 h v hv)).1
  · obtain ⟨v, hv, rfl⟩ := List.mem_map.1 hx
    exact (byteN_is (List.all_eq_true.1 h v hv)).2
theorem valueO_ok {args : List Value} {H : Heap} {nx : Nat} {v : Value} {H' : Heap} {nx' : Nat} (h : valueO args H nx = some (v, H', nx')) : CS Tryz.prog 158 args H nx v H' nx' := by
  unfold valueO at h
  split at h
  · rename_i a n c
    cases hb : Nat.ble n 8 with
    | false => rw [hb] at h; cases h
    | true =>
      rw [hb] at h
      simp only [cond_true] at h
      obtain ⟨b, o, blk, row, l, rfl, hg, hrow, hl, h⟩ := rowK_inv h
      cases hall : l.all byteV with
      | false => rw [hall] at h; cases h
      | true =>
        rw [hall] at h
        simp only [cond_true] at h
        rw [fN_eq] at h
        cases h
        obtain ⟨xs, hxs, hlt⟩ := bytes_of hall
        obtain ⟨hl1, hl2⟩ := takeN_inv hl
        have hlen : xs.length = n := by
          have h1 := congrArg List.length hxs
          rw [List.length_map, hl1, List.length_take] at h1
          omega
        have hb8 := Nat.le_of_ble_eq_true hb
        have hans := value158 (b := b) (o := o) (c := c) (l := xs) (H := H) (nx := nx) hlt (by omega) (fun j x k hx => by
          have h1 : l[j]? = some (.int .u8 (x : Int)) := by rw [hxs, List.getElem?_map, hx]; rfl
          have hj := (List.getElem?_eq_some_iff.1 hx).1
          rw [hl1, List.getElem?_take_of_lt (by omega), List.getElem?_drop] at h1
          rw [hg]
          cases blk with
          | cells c' sl => cases hrow; rw [ldP_cells, cellP_one, h1]; rfl
          | rom c' => cases hrow; rw [ldP_rom, cellP_one, h1]; rfl
          | map _ _ => cases hrow
          | iter _ _ _ => cases hrow)
        rw [hlen] at hans
        obtain ⟨v, H', nx', hcs, e1, e2, e3⟩ := hans
        subst e1; subst e2; subst e3
        rw [hxs, le64_is, hlen]
        exact hcs
  · cases h
end Go.Proofs.YtbmiedinclieaaaGreatDoor

namespace Go.Proofs.YtbmiedinclieaaaGreatDoor
open Go.Clo Go.Shelf

-- maps.Keys
theorem keysO_ok {f g T : Nat} (hE : Go.Clo.Enters Tryz.prog f) (hc : ∀ mb W, Calls Tryz.prog f #[.map mb] W fun e w' => e = .returned (.func (.func g) #[] #[.pointer (some ⟨W.heap.size, 0, none⟩)]) ∧ w' = W.alloc (.cells #[.map mb] T))
    {args : List Value} {H : Heap} {nx : Nat} {v : Value} {H' : Heap} {nx' : Nat} (h : keysO g T args H nx = some (v, H', nx')) : CS Tryz.prog f args H nx v H' nx' := by
  unfold keysO at h
  split at h
  · rw [hsK_eq, forceN_eq] at h; cases h
    exact keys_cs hE hc _ H nx
  · cases h
-- slices.Sorted
theorem boxK_inv {H : Heap} {p : Nat} {k : Option Nat → Option (Value × Heap × Nat)} {r : Value × Heap × Nat} (h : boxK H p k = some r) : ∃ m sl, getH H p = some (.cells [.map m] sl) ∧ 1000 ≤ sl ∧ sl % 1000 = 0 ∧ k m = some r := by
  unfold boxK at h
  rw [getB_eq] at h
  cases hg : getH H p with
  | none => rw [hg] at h; cases h
  | some blk =>
    rw [hg] at h
    dsimp only [Option.elim_some] at h
    split at h
    · rename_i m sl
      cases hb : (Nat.ble 1000 sl && Nat.beq (sl % 1000) 0) with
      | false => rw [hb] at h; cases h
      | true =>
        rw [hb] at h
        simp only [cond_true] at h
        rw [Bool.and_eq_true] at hb
        exact ⟨m, sl, rfl, Nat.le_of_ble_eq_true hb.1, Nat.eq_of_beq_eq_true hb.2, h⟩
    · cases h
theorem sortedIO_ok {args : List Value} {H : Heap} {nx : Nat} {v : Value} {H' : Heap} {nx' : Nat} (h : sortedIO gI args H nx = some (v, H', nx')) : CS Tryz.prog 72 args H nx v H' nx' := by
  unfold sortedIO at h
  split at h
  · rename_i g p
    cases hb : gI g with
    | false => rw [hb] at h; cases h
    | true =>
      rw [hb] at h
      simp only [cond_true] at h
      have main : ∀ {ρ : Go.Shelf.Ren} (L : Go.Proofs.SlLaysZI.n10 Tryz.prog ρ) (h26 : ρ.t 26 = 3) (eg : ∀ args w, (callFunc (ρ.f 10) args).run Tryz.prog w = .ok (.enter (ρ.f 10) args) w), ρ.f 10 = g →
          CS Tryz.prog 72 [.func (.func g) ⟨[]⟩ ⟨[.pointer (some ⟨p, 0, none⟩)]⟩] H nx v H' nx' := by
        intro ρ L h26 eg e
        subst e
        obtain ⟨m, sl, hp, h1, h2, h⟩ := boxK_inv h
        split at h
        · cases h
          exact sortedI_nil_cs L eg hp h1 h2
        · rename_i r
          rw [getB_eq] at h
          cases hg : getH H r with
          | none => rw [hg] at h; cases h
          | some blk =>
            rw [hg] at h
            dsimp only [Option.elim_some] at h
            split at h
            · rename_i es c
              split at h
              · rename_i zs hz
                cases hl : Nat.ble zs.length 1000 with
                | false => rw [hl] at h; cases h
                | true =>
                  rw [hl] at h
                  simp only [cond_true] at h
                  rw [newQ_eq] at h; cases h
                  exact sortedI_cs L h26 eg hp h1 h2 hg hz (Nat.le_of_ble_eq_true hl)
              · cases h
            · cases h
      unfold gI at hb
      exact main (ρ := Tryz.keys108_ren) { Tryz.keys108 with } rfl (enters_of Tryz.func145 (by kernel_rfl) rfl) (Nat.eq_of_beq_eq_true hb).symm
  · cases h
theorem sortedSO_ok {args : List Value} {H : Heap} {nx : Nat} {v : Value} {H' : Heap} {nx' : Nat} (h : sortedSO gS args H nx = some (v, H', nx')) : CS Tryz.prog 190 args H nx v H' nx' := by
  unfold sortedSO at h
  split at h
  · rename_i g p
    cases hb : gS g with
    | false => rw [hb] at h; cases h
    | true =>
      rw [hb] at h
      simp only [cond_true] at h
      have e : Tryz.keys158_ren.f 10 = g := (Nat.eq_of_beq_eq_true hb).symm
      obtain ⟨m, sl, hp, h1, h2, h⟩ := boxK_inv h
      split at h
      · cases h
      · rename_i r
        rw [getB_eq] at h
        cases hg : getH H r with
        | none => rw [hg] at h; cases h
        | some blk =>
          rw [hg] at h
          dsimp only [Option.elim_some] at h
          split at h
          · rename_i es c
            split at h
            · rename_i zs hz
              cases hl : Nat.ble zs.length 1000 with
              | false => rw [hl] at h; cases h
              | true =>
                rw [hl] at h
                simp only [cond_true] at h
                rw [newQ_eq] at h; cases h
                rw [← e]
                exact sortedS_cs (ρ := Tryz.keys158_ren) { Tryz.keys158 with } rfl (enters_of Tryz.func296 (by kernel_rfl) rfl) hp h1 h2 hg hz (Nat.le_of_ble_eq_true hl)
            · cases h
          · cases h
  · cases h
-- checksum.Update
theorem enUpdate : Go.Clo.Enters Tryz.prog 410 := ⟨_, _, Tryz.func410, rfl, by kernel_rfl⟩
theorem nthK_ctab (i : Nat) : ct i = ⟨ctab.getD i 0⟩ := by
  unfold ct
  rw [nthK_eq]
  cases h : ctab[i]? with
  | none => simp [List.getD, h]
  | some n => simp [List.getD, h]
theorem nib_is (r : Nat) (k : Nat → Nat) : nib r k = k (nibN r) := by
  unfold nib nibN
  rw [nthK_ctab, fN_eq]
theorem crcL_cons (v : Value) (l : List Value) (r : Nat) : crcL (v :: l) r = crcL l (nibN (nibN (r ^^^ natV v))) := by
  show fN (Nat.xor r (natV v)) (fun r => nib r fun r => nib r (crcL l)) = _
  rw [fN_eq, nib_is, nib_is]
  rfl
theorem crcL_eq : ∀ (l : List Value) (r : Nat), crcL l r = crcN (l.map natV) r
  | [], r => rfl
  | v :: l, r => by
    rw [crcL_cons, crcL_eq l]
    rfl
theorem byteV_is {v : Value} (h : byteV v = true) : v = .int .u8 (natV v : Nat) ∧ natV v < 256 := by
  unfold byteV at h
  split at h
  · exact ⟨rfl, by rw [Nat.blt_eq] at h; exact h⟩
  · cases h
theorem updateO_ok {args : List Value} {H : Heap} {nx : Nat} {v : Value} {H' : Heap} {nx' : Nat} (h : updateO args H nx = some (v, H', nx')) : CS Tryz.prog 410 args H nx v H' nx' := by
  unfold updateO at h
  split at h
  · rename_i s b
    cases hs : Nat.blt s 4294967296 with
    | false => rw [hs] at h; cases h
    | true =>
    rw [hs] at h
    simp only [cond_true] at h
    have hs : s < 4294967296 := by simpa using hs
    split at h
    · rename_i a n cap
      obtain ⟨l, h, hw⟩ := rowK_world (cap := cap) h
      cases hb : (l.all byteV && Nat.ble l.length 1000000) with
      | false => rw [hb] at h; cases h
      | true =>
        rw [hb] at h
        simp only [cond_true] at h
        rw [fN_eq] at h; cases h
        rw [Bool.and_eq_true, List.all_eq_true] at hb
        have hfl : l.all flat1 = true := by
          rw [List.all_eq_true]
          intro x hx
          rw [(byteV_is (hb.1 x hx)).1]; rfl
        refine ⟨enUpdate, fun F args' w hr hv => ?_⟩
        cases hv with
        | cons hv hv2 =>
        cases hv
        cases hv2 with
        | cons hv2 hv3 =>
        cases hv3
        have hrow := hw hr hv2 hfl
        cases hrow with
        | nil h0 => cases hv2
        | @row b o c hc =>
          have := update_w s b o l.length c (l.map natV) w hs (by simp) (Nat.le_of_ble_eq_true hb.2) (fun j => by
            rcases Nat.lt_or_ge j l.length with hj | hj
            · simp only [List.getD, List.getElem?_map, List.getElem?_eq_getElem hj, Option.map_some, Option.getD_some]
              exact (byteV_is (hb.1 _ (List.getElem_mem hj))).2
            · simp [List.getD, List.getElem?_eq_none hj]) (fun j hj => by
            rw [hc j _ (List.getElem?_eq_getElem hj)]
            simp only [List.getD, List.getElem?_map, List.getElem?_eq_getElem hj, Option.map_some, Option.getD_some]
            rw [← (byteV_is (hb.1 _ (List.getElem_mem hj))).1]) (fun i hi => glw_crc hr.gl.1 hi)
          refine this.mono fun e w' ⟨he, hw'⟩ => ?_
          subst hw'
          refine ⟨_, F, he, ?_, stp_below hr below_self⟩
          rw [crcL_eq]
          exact .int _ _
    · cases h
  · cases h
theorem dok_is : DfrOK Tryz.prog dok := dok_ok
theorem orc0_ok : OrcOK Tryz.prog orc0 := by
  intro f o h args H nx v H' nx' ho
  unfold orc0 at h
  have beq : ∀ {n : Nat}, Nat.beq f n = true → f = n := fun h => Nat.eq_of_beq_eq_true h
  cases h1 : Nat.beq f 410 with
  | true => rw [h1] at h; cases h; rw [beq h1]; exact updateO_ok ho
  | false =>
  rw [h1] at h; simp only [cond_false] at h
  cases h1 : Nat.beq f 192 with
  | true => rw [h1] at h; cases h; rw [beq h1]; exact cloneO_ok ho
  | false =>
  rw [h1] at h; simp only [cond_false] at h
  cases h1 : Nat.beq f 190 with
  | true => rw [h1] at h; cases h; rw [beq h1]; exact sortedSO_ok ho
  | false =>
  rw [h1] at h; simp only [cond_false] at h
  cases h1 : Nat.beq f 72 with
  | true => rw [h1] at h; cases h; rw [beq h1]; exact sortedIO_ok ho
  | false =>
  rw [h1] at h; simp only [cond_false] at h
  cases h1 : Nat.beq f 191 with
  | true =>
    rw [h1] at h; cases h; rw [beq h1]
    exact keysO_ok ⟨_, _, Tryz.func191, rfl, by kernel_rfl⟩ (fun mb W => callsIn_wide.1 (Go.Proofs.AnyZ.keys_in Tryz.keys158 Fence.wide 5 trivial rfl mb W)) ho
  | false =>
  rw [h1] at h; simp only [cond_false] at h
  cases h1 : Nat.beq f 73 with
  | true =>
    rw [h1] at h; cases h; rw [beq h1]
    exact keysO_ok ⟨_, _, Tryz.func73, rfl, by kernel_rfl⟩ (fun mb W => callsIn_wide.1 (Go.Proofs.AnyZI.keys_in Tryz.keys108 Fence.wide 5 trivial rfl mb W)) ho
  | false =>
  rw [h1] at h; simp only [cond_false] at h
  cases h1 : (Nat.beq f 74 || Nat.beq f 137) with
  | true =>
    rw [h1] at h; cases h
    simp only [Bool.or_eq_true] at h1
    rcases h1 with h1 | h1
    · rw [beq h1]
      exact mcloneG ⟨_, _, Tryz.func74, rfl, by kernel_rfl⟩ (fun b es c w hb => Go.Proofs.AnyW.maps_Clone Tryz.mclone79 b es c w hb) (fun w => Go.Proofs.AnyW.maps_Clone_nil Tryz.mclone79 w) ho
    · rw [beq h1]
      exact mcloneG ⟨_, _, Tryz.func137, rfl, by kernel_rfl⟩ (fun b es c w hb => Go.Proofs.AnyW.maps_Clone Tryz.mclone161 b es c w hb) (fun w => Go.Proofs.AnyW.maps_Clone_nil Tryz.mclone161 w) ho
  | false =>
  rw [h1] at h; simp only [cond_false] at h
  cases h1 : Nat.beq f 432 with
  | true => rw [h1] at h; cases h; rw [beq h1]; exact growG Tryz.grow393 (by8 := 16) (by kernel_rfl) rfl rfl (by omega) ⟨_, _, Tryz.func432, rfl, by kernel_rfl⟩ ho
  | false =>
  rw [h1] at h; simp only [cond_false] at h
  cases h1 : Nat.beq f 330 with
  | true => rw [h1] at h; cases h; rw [beq h1]; exact compareO_ok ho
  | false =>
  rw [h1] at h; simp only [cond_false] at h
  cases h1 : Nat.beq f 413 with
  | true => rw [h1] at h; cases h; rw [beq h1]; exact bcompareO_ok ho
  | false =>
  rw [h1] at h; simp only [cond_false] at h
  cases h1 : Nat.beq f 158 with
  | true => rw [h1] at h; cases h; rw [beq h1]; exact valueO_ok ho
  | false => rw [h1] at h; cases h
end Go.Proofs.YtbmiedinclieaaaGreatDoor
