/-
  slices.Sorted(slices.Values(s)) over strings, at this program: a new slice that holds the strings of s, sorted.
-/
import Derived.Test.YtjpgddpobnjmkaaDoorK8
import Derived.Test.YtjpgddpobnjmkaaDoorK9
import Derived.Sort.OwnSorted
import Derived.RangeFuncBound
set_option linter.unusedSimpArgs false
set_option linter.unusedVariables false
set_option linter.unusedSectionVars false
namespace Go.Proofs.YtjpgddpobnjmkaaDoor
open Go.RowKit Go.Shelf Go.Sort Go.Maps

attribute [local go_sem] Oper.semAt_some

/-- The strings as lists of bytes, and back. -/
def bytesOf (zs : List ByteArray) : List (List UInt8) := zs.map fun z => z.data.toList
def sortS (zs : List ByteArray) : List ByteArray := ((bytesOf zs).mergeSort fun x y => decide (x ≤ y)).map fun l => ⟨l.toArray⟩
theorem bytesOf_enc (zs : List ByteArray) : (bytesOf zs).map encStr = zs.map Value.string := by
  simp [bytesOf, List.map_map]
theorem sortS_enc (zs : List ByteArray) : ((bytesOf zs).mergeSort fun x y => decide (x ≤ y)).map encStr = (sortS zs).map Value.string := by
  simp [sortS, List.map_map]

set_option maxHeartbeats 1000000 in
theorem collect_in (F : Fence) (n : Nat) (h38 : F.fn 38) (h48 : F.fn 48) (h40 : F.fn 40) (hro : F.round = none) (hn : 4 ≤ n) (Bs Bo : Nat) (sv : Value) (zs : List ByteArray) (hlen : zs.length ≤ 1000) (w : World) (hBs : Bs < w.heap.size) (hc : w.cell? ⟨Bs, Bo, none⟩ = some sv) (hI : Strs w.heap.size w sv zs) :
    CallsIn F n Tryd.prog 38 #[.func (.func 40) #[] #[.pointer (some ⟨Bs, Bo, none⟩)]] w fun e W' => ∃ v, e = .returned v ∧ W'.ownsRow w.heap.size 9 1 v zs.length (zs.map Value.string) ∧ (v = .slice none 0 0 ↔ zs = []) ∧ Below w.heap.size w W' := by
  refine callsIn_of_wp Tryd.func38 rfl h38 ?_ hro
  have h1 : 1 ≤ n := by omega
  simp only [Tryd.ntmps38, List.size_toArray, List.length_cons, List.length_nil, Nat.reduceAdd, Nat.reduceSub, Array.replicate_succ, Array.replicate_zero, List.push_toArray, List.append_toArray, List.nil_append, List.cons_append]
  gi_wp2_with (gi_at_call 48; refine (appendSeq_in F (n - 1) h48 h40 hro (by omega) Bs Bo sv zs hlen _ hBs hc hI).mono ?_; rintro e w' ⟨v, rfl, hrow, hnil, hb⟩)
  go_ret
  exact ⟨v, rfl, hrow, hnil, hb⟩

set_option maxRecDepth 100000 in
set_option maxHeartbeats 2000000 in
theorem sorted_in (F : Fence) (n : Nat) (hF : F = Fence.wide) (hn : 5 ≤ n) (Bs Bo : Nat) (sv : Value) (zs : List ByteArray) (hlen : zs.length ≤ 1000) (w : World) (hBs : Bs < w.heap.size) (hc : w.cell? ⟨Bs, Bo, none⟩ = some sv) (hI : Strs w.heap.size w sv zs) :
    CallsIn F n Tryd.prog 30 #[.func (.func 40) #[] #[.pointer (some ⟨Bs, Bo, none⟩)]] w fun e W' => ∃ v, e = .returned v ∧ W'.ownsRow w.heap.size 9 1 v zs.length ((sortS zs).map Value.string) ∧ (zs = [] → v = .slice none 0 0) ∧ Below w.heap.size w W' := by
  subst hF
  have h1 : 1 ≤ n := by omega
  have h38 : Fence.wide.fn 38 := trivial
  have h39 : Fence.wide.fn 39 := trivial
  refine callsIn_of_wp Tryd.func30 rfl trivial ?_ rfl
  simp only [Tryd.ntmps30, List.size_toArray, List.length_cons, List.length_nil, Nat.reduceAdd, Nat.reduceSub, Array.replicate_succ, Array.replicate_zero, List.push_toArray, List.append_toArray, List.nil_append, List.cons_append]
  gi_wp2_with (gi_at_call 38; refine (collect_in Fence.wide (n - 1) trivial trivial trivial rfl (by omega) Bs Bo sv zs hlen _ hBs hc hI).mono ?_; rintro e W ⟨v, rfl, hrow, hnil, hb⟩)
  rcases hrow.2 with ⟨rfl, hz⟩ | ⟨gb, cap, cur, rfl, hbase, hgb, r1, r2, r3, r4⟩
  · have hzs : zs = [] := List.eq_nil_of_length_eq_zero hz
    subst hzs
    gi_wp2_with (gi_at_call 39; refine (callsIn_wide.2 (AnyM.slices_Sort_string_none Tryd.sort39 none 0 W)).mono ?_; rintro e w' ⟨rfl, rfl⟩)
    go_ret
    exact ⟨.slice none 0 0, rfl, by simpa [sortS, bytesOf] using hrow, by simp, hb⟩
  · have hH : Holds encStr W gb 0 (bytesOf zs).toArray := holds_of_block hgb (by rw [bytesOf_enc]; simpa [bytesOf] using r4)
    have hgl : gb < W.heap.size := (Array.getElem?_eq_some_iff.1 hgb).1
    have hbl : (bytesOf zs).length = zs.length := by simp [bytesOf]
    have hsz : (bytesOf zs).length < 4611686018427387904 := by omega
    have cS := AnyM.slices_Sort_string Tryd.sort39 gb 0 cap (bytesOf zs) W hH hgl hsz
    rw [hbl] at cS
    gi_wp2_with (gi_at_call 39; refine (callsIn_wide.2 cS).mono ?_; rintro e w' ⟨rfl, nn, os, rfl⟩)
    go_ret
    refine ⟨_, rfl, ?_, hnil.2, hb.grown (grownBy_sorted _) hb.size (fun j hj => by cases hj; exact hbase)⟩
    have := ownsRow_sorted (n := nn) (os := os) (ss := bytesOf zs) (ts := (bytesOf zs).mergeSort fun x y => decide (x ≤ y)) (by simp) hbase hgb (by rw [hbl]; exact r1) r2 r3
    rw [sortS_enc, hbl] at this
    exact this

theorem sorted30 (Bs Bo : Nat) (sv : Value) (zs : List ByteArray) (hlen : zs.length ≤ 1000) (w : World) (hBs : Bs < w.heap.size) (hc : w.cell? ⟨Bs, Bo, none⟩ = some sv) (hI : Strs w.heap.size w sv zs) :
    Calls Tryd.prog 30 #[.func (.func 40) #[] #[.pointer (some ⟨Bs, Bo, none⟩)]] w fun e W' => ∃ v, e = .returned v ∧ W'.ownsRow w.heap.size 9 1 v zs.length ((sortS zs).map Value.string) ∧ (zs = [] → v = .slice none 0 0) ∧ Below w.heap.size w W' :=
  callsIn_wide.1 (sorted_in Fence.wide 6 rfl (by omega) Bs Bo sv zs hlen w hBs hc hI)
end Go.Proofs.YtjpgddpobnjmkaaDoor
