/-
  slices.Sorted of a map's keys (integers, strings) and maps.Keys, as the executor's oracles.
-/
import Derived.Shelf.Abstract
import Derived.Lib.SlKeysI
import Derived.Test.YtaiefmkapnekiaaGreatDoorH12
import Derived.Test.YtaiefmkapnekiaaGreatDoorH16
import Derived.Test.YtaiefmkapnekiaaGreatDoorH8
set_option linter.all false
namespace Go.Proofs.YtaiefmkapnekiaaGreatDoor
open Go.RowKit Go.Shelf Go.Sort Go.Maps

/-- How an element reads: not at all. -/
noncomputable def RU : Value → Option (DataW Unit × List MemPlace) := fun _ => some (.nil, [])
noncomputable def datumK (k : TypeId) (es : Array MapEntry) : DataW Unit := .map ((es.toList.map (Go.WideElems.rg Tryz.prog k RU)).foldr DataW.insert [])
theorem datumK_size (k : TypeId) (es : Array MapEntry) : Maps.size (datumK k es) = es.size := by
  simp only [datumK, Maps.size]
  exact Go.length_read es
theorem owns_K {k : TypeId} {w : World} {b : Nat} {es : Array MapEntry} {c : Nat} (hb : w.heap[b]? = some (.map es c)) (hst : MapKept.Stamped es c) (hk : ∀ e ∈ es.toList, ∃ l, keyOf Tryz.prog k e.key = some l) (hsz : es.size ≤ 1000) :
    w.ownsMap Tryz.prog k RU b es.size (datumK k es) :=
  ⟨es, c, hb, ⟨by unfold maxLen; omega, hst, fun x hx => let ⟨l, hl⟩ := hk x hx; ⟨(l, .nil), by simp [Go.WideElems.rd, RU, hl]⟩⟩, Nat.le_refl _, rfl⟩

/-! Integers. -/
theorem key_int {x : Int} (h : (Lit.int .i64 x).wf = true) : keyOf Tryz.prog 3 (.int .i64 x) = some (.int .i64 x) := by
  simp [keyOf, Tryz.underlying3, mapKey, h]
theorem sorts_int (m : Nat) : AnyZI.SortsIn Tryz.prog Tryz.sorted39_ren Fence.wide m :=
  ⟨fun blk off cap ss W hH hblk hsz => callsIn_wide.2 (AnyM.slices_Sort_int Tryz.sort71 blk off cap ss W hH hblk hsz),
   fun p cap W => callsIn_wide.2 (AnyM.slices_Sort_int_none Tryz.sort71 p cap W)⟩
/-- What a sorted row of integers is. -/
def SortedI (w : World) (es : Array MapEntry) (e : Ending) (w' : World) : Prop := ∃ (v : Value) (ss : List Int), e = .returned v ∧ ss.Perm (intKeys (datumK 3 es)) ∧
      w'.ownsRow w.heap.size 3 1 v ss.length ((ss.mergeSort (fun x y => decide (x ≤ y))).map encZ) ∧ (v = .slice none 0 0 ↔ ss = []) ∧ Below w.heap.size w w'
theorem sortedI_w {ρ : Ren} (L : Go.Proofs.SlLaysZI.n10 Tryz.prog ρ) (h26 : ρ.t 26 = 3) (eg : ∀ args w, (callFunc (ρ.f 10) args).run Tryz.prog w = .ok (.enter (ρ.f 10) args) w) (Bm b : Nat) (es : Array MapEntry) (c : Nat) (w : World) (hBm : Bm < w.heap.size) (hm : w.cell? ⟨Bm, 0, none⟩ = some (.map (some b)))
    (hb : w.heap[b]? = some (.map es c)) (hst : MapKept.Stamped es c) (hk : ∀ e ∈ es.toList, ∃ x : Int, e.key = .int .i64 x ∧ (Lit.int .i64 x).wf = true) (hsz : es.size ≤ 1000) :
    Calls Tryz.prog 38 #[.func (.func (ρ.f 10)) #[] #[.pointer (some ⟨Bm, 0, none⟩)]] w (SortedI w es) := by
  have hmax : Maps.size (datumK 3 es) ≤ maxLen := by rw [datumK_size]; unfold maxLen; omega
  have hbytes : Maps.size (datumK 3 es) * 8 ≤ 140737488355328 := by rw [datumK_size]; omega
  have hown := owns_K (k := 3) hb hst (fun e he => let ⟨x, hx, hw⟩ := hk e he; ⟨_, by rw [hx]; exact key_int hw⟩) hsz
  have hseq : SeqGives Fence.wide 2 Tryz.prog (ρ.f 10) #[.pointer (some ⟨Bm, 0, none⟩)] encZ (fun ss => ss.Perm (intKeys (datumK 3 es))) (Maps.size (datumK 3 es)) w :=
    AnyZI.keys_gives L Fence.wide _ trivial rfl (by omega) Bm b es.size (datumK 3 es) w hBm hm (by rw [h26]; exact hown)
  exact callsIn_wide.1 (AnyZI.sorted_in Tryz.sorted39 Fence.wide 5 trivial trivial trivial trivial rfl (by omega) (sorts_int _) (enters_of Tryz.func60 (by kernel_rfl) rfl) (ρ.f 10) #[.pointer (some ⟨Bm, 0, none⟩)] trivial eg _ _ hmax hbytes w hseq)
theorem sortedI_nil {ρ : Ren} (L : Go.Proofs.SlLaysZI.n10 Tryz.prog ρ) (eg : ∀ args w, (callFunc (ρ.f 10) args).run Tryz.prog w = .ok (.enter (ρ.f 10) args) w) (Bm : Nat) (w : World) (hBm : Bm < w.heap.size) (hm : w.cell? ⟨Bm, 0, none⟩ = some (.map none)) :
    Calls Tryz.prog 38 #[.func (.func (ρ.f 10)) #[] #[.pointer (some ⟨Bm, 0, none⟩)]] w fun e w' => e = .returned (.slice none 0 0) ∧ Below w.heap.size w w' := by
  have hseq : SeqGives Fence.wide 2 Tryz.prog (ρ.f 10) #[.pointer (some ⟨Bm, 0, none⟩)] encZ (fun ss : List Int => ss = []) 0 w :=
    AnyZI.keys_gives_nil L Fence.wide _ trivial rfl Bm w hBm hm
  refine (callsIn_wide.1 (AnyZI.sorted_in Tryz.sorted39 Fence.wide 5 trivial trivial trivial trivial rfl (by omega) (sorts_int _) (enters_of Tryz.func60 (by kernel_rfl) rfl) (ρ.f 10) #[.pointer (some ⟨Bm, 0, none⟩)] trivial eg _ 0 (Nat.zero_le _) (by omega) w hseq)).mono ?_
  rintro e w' ⟨v, ss, rfl, rfl, hrow, hnil, hb⟩
  exact ⟨by rw [hnil.2 rfl], hb⟩

/-! Strings. -/
theorem key_str {s : ByteArray} (h : s.size ≤ 1000) : keyOf Tryz.prog 9 (.string s) = some (.string s.data.toList) := by
  have : s.size ≤ maxLen := by unfold maxLen; omega
  simp [keyOf, Tryz.underlying9, mapKey, this]
theorem sorts_str (m : Nat) : AnyZ.SortsIn Tryz.prog Tryz.sorted157_ren Fence.wide m :=
  ⟨fun blk off cap ss W hH hblk hsz => callsIn_wide.2 (AnyM.slices_Sort_string Tryz.sort235 blk off cap ss W hH hblk hsz),
   fun p cap W => callsIn_wide.2 (AnyM.slices_Sort_string_none Tryz.sort235 p cap W)⟩
def SortedS (w : World) (es : Array MapEntry) (e : Ending) (w' : World) : Prop := ∃ (v : Value) (ss : List (List UInt8)), e = .returned v ∧ ss.Perm (Go.strKeys (datumK 9 es)) ∧
      w'.ownsRow w.heap.size 9 1 v ss.length ((ss.mergeSort (fun x y => decide (x ≤ y))).map encStr) ∧ (v = .slice none 0 0 ↔ ss = []) ∧ Below w.heap.size w w'
theorem sortedS_w {ρ : Ren} (L : Go.Proofs.SlLaysZ.n10 Tryz.prog ρ) (h26 : ρ.t 26 = 9) (eg : ∀ args w, (callFunc (ρ.f 10) args).run Tryz.prog w = .ok (.enter (ρ.f 10) args) w) (Bm b : Nat) (es : Array MapEntry) (c : Nat) (w : World) (hBm : Bm < w.heap.size) (hm : w.cell? ⟨Bm, 0, none⟩ = some (.map (some b)))
    (hb : w.heap[b]? = some (.map es c)) (hst : MapKept.Stamped es c) (hk : ∀ e ∈ es.toList, ∃ s : ByteArray, e.key = .string s ∧ s.size ≤ 1000) (hsz : es.size ≤ 1000) :
    Calls Tryz.prog 172 #[.func (.func (ρ.f 10)) #[] #[.pointer (some ⟨Bm, 0, none⟩)]] w (SortedS w es) := by
  have hmax : Maps.size (datumK 9 es) ≤ maxLen := by rw [datumK_size]; unfold maxLen; omega
  have hbytes : Maps.size (datumK 9 es) * 16 ≤ 140737488355328 := by rw [datumK_size]; omega
  have hown := owns_K (k := 9) hb hst (fun e he => let ⟨x, hx, hw⟩ := hk e he; ⟨_, by rw [hx]; exact key_str hw⟩) hsz
  have hseq : SeqGives Fence.wide 2 Tryz.prog (ρ.f 10) #[.pointer (some ⟨Bm, 0, none⟩)] encStr (fun ss => ss.Perm (Go.strKeys (datumK 9 es))) (Maps.size (datumK 9 es)) w :=
    AnyZ.keys_gives L Fence.wide _ trivial rfl (by omega) Bm b es.size (datumK 9 es) w hBm hm (by rw [h26]; exact hown)
  exact callsIn_wide.1 (AnyZ.sorted_in Tryz.sorted157 Fence.wide 5 trivial trivial trivial trivial rfl (by omega) (sorts_str _) (enters_of Tryz.func241 (by kernel_rfl) rfl) (ρ.f 10) #[.pointer (some ⟨Bm, 0, none⟩)] trivial eg _ _ hmax hbytes w hseq)
end Go.Proofs.YtaiefmkapnekiaaGreatDoor
