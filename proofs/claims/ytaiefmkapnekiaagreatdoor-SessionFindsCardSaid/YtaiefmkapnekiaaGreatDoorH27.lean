/-
  Two closed facts of the row, part by part: maps' rows, plain keys.
-/
import Derived.Test.YtaiefmkapnekiaaGreatDoorRows
import Derived.ProofKit
import Derived.KernelRfl
set_option linter.all false
namespace Go.Proofs.YtaiefmkapnekiaaGreatDoor.facts
open Go
theorem part {p : Nat → Bool} {a n : Nat} (h : (List.range' a n).all p = true) {t : Nat} (h1 : a ≤ t) (h2 : t < a + n) : p t = true :=
  List.all_eq_true.1 h t (List.mem_range'_1.2 ⟨h1, h2⟩)
theorem all_of {p : Nat → Bool} {n : Nat} (h : ∀ t, t < n → p t = true) : (List.range n).all p = true :=
  List.all_eq_true.2 fun t ht => h t (List.mem_range.1 ht)
def mapRow (P : Program) (t : TypeId) : Bool := match P.underlying t with
  | some (.map _ e) => decide (e < P.types.size)
  | _ => true
def keyRow (P : Program) (t : TypeId) : Bool := match P.underlying t with
  | some (.map k _) => (match P.underlying k with
    | some (.array _ _) | some (.struct _) => false
    | _ => true)
  | _ => true
theorem mapsRowed_eq (P : Program) : mapsRowed P = (List.range P.types.size).all (mapRow P) := rfl
theorem plainKeys_eq (P : Program) : P.plainKeys = (List.range P.types.size).all (keyRow P) := rfl
theorem number : Tryz.prog.types.size = 840 := by kernel_rfl
theorem map0 : (List.range' 0 200).all (mapRow Tryz.prog) = true := by kernel_rfl
theorem map1 : (List.range' 200 200).all (mapRow Tryz.prog) = true := by kernel_rfl
theorem map2 : (List.range' 400 140).all (mapRow Tryz.prog) = true := by kernel_rfl
theorem map3 : (List.range' 540 100).all (mapRow Tryz.prog) = true := by kernel_rfl
theorem map4 : (List.range' 640 100).all (mapRow Tryz.prog) = true := by kernel_rfl
theorem map5 : (List.range' 740 100).all (mapRow Tryz.prog) = true := by kernel_rfl
theorem map_all : ∀ t : Nat, t < 840 → mapRow Tryz.prog t = true := by
  intro t ht
  by_cases g0 : t < 200
  · exact part (p := mapRow Tryz.prog) (t := t) map0 (by omega) (by omega)
  by_cases g1 : t < 400
  · exact part (p := mapRow Tryz.prog) (t := t) map1 (by omega) (by omega)
  by_cases g2 : t < 540
  · exact part (p := mapRow Tryz.prog) (t := t) map2 (by omega) (by omega)
  by_cases g3 : t < 640
  · exact part (p := mapRow Tryz.prog) (t := t) map3 (by omega) (by omega)
  by_cases g4 : t < 740
  · exact part (p := mapRow Tryz.prog) (t := t) map4 (by omega) (by omega)
  · exact part (p := mapRow Tryz.prog) (t := t) map5 (by omega) (by omega)
theorem key0 : (List.range' 0 200).all (keyRow Tryz.prog) = true := by kernel_rfl
theorem key1 : (List.range' 200 200).all (keyRow Tryz.prog) = true := by kernel_rfl
theorem key2 : (List.range' 400 140).all (keyRow Tryz.prog) = true := by kernel_rfl
theorem key3 : (List.range' 540 100).all (keyRow Tryz.prog) = true := by kernel_rfl
theorem key4 : (List.range' 640 100).all (keyRow Tryz.prog) = true := by kernel_rfl
theorem key5 : (List.range' 740 100).all (keyRow Tryz.prog) = true := by kernel_rfl
theorem key_all : ∀ t : Nat, t < 840 → keyRow Tryz.prog t = true := by
  intro t ht
  by_cases g0 : t < 200
  · exact part (p := keyRow Tryz.prog) (t := t) key0 (by omega) (by omega)
  by_cases g1 : t < 400
  · exact part (p := keyRow Tryz.prog) (t := t) key1 (by omega) (by omega)
  by_cases g2 : t < 540
  · exact part (p := keyRow Tryz.prog) (t := t) key2 (by omega) (by omega)
  by_cases g3 : t < 640
  · exact part (p := keyRow Tryz.prog) (t := t) key3 (by omega) (by omega)
  by_cases g4 : t < 740
  · exact part (p := keyRow Tryz.prog) (t := t) key4 (by omega) (by omega)
  · exact part (p := keyRow Tryz.prog) (t := t) key5 (by omega) (by omega)
theorem mapsRow : mapsRowed Tryz.prog = true := by
  rw [mapsRowed_eq, number]
  exact all_of map_all
theorem keysPlain : Tryz.prog.plainKeys = true := by
  rw [plainKeys_eq, number]
  exact all_of key_all
end Go.Proofs.YtaiefmkapnekiaaGreatDoor.facts
