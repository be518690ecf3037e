/-
  The closed facts of the row that ask what types lead to: the book of a type that leads no further is short.
  The closed facts of the row: every type's row fits, part by part.
  Two closed facts of the row, part by part: maps' rows, plain keys.
  A closed fact of the row.
  The closed facts of the row, joined.
-/
import Derived.Test.YtbmiedinclieaaaGreatDoorRows
import Derived.ProofKit
import Derived.KernelRfl
import Derived.Test.YtbmiedinclieaaaGreatDoorU16
import Derived.JoinedOf
set_option linter.all false
namespace Go.Proofs.YtbmiedinclieaaaGreatDoor.engineCollects
open Go
section
variable {P : Program} {t u : TypeId}
theorem grown_same {l : List TypeId} (h : P.grow l = l) : ∀ n, P.grown n l = l
  | 0 => rfl
  | n + 1 => by rw [Program.grown, h, grown_same h n]
theorem book_leaf (h : P.grow [t] = [t]) : P.book t = [t] := grown_same h _
theorem book_two (h1 : P.grow [t] = [t, u]) (h2 : P.grow [t, u] = [t, u]) (hs : (P.types.size == 0) = false) : P.book t = [t, u] := by
  unfold Program.book
  cases hn : P.types.size with
  | zero => rw [hn] at hs; cases hs
  | succ n => rw [Program.grown, h1, grown_same h2]
theorem own_of (h : P.veiledRec t = false) : P.veiledOwn t = true := by
  unfold Program.veiledOwn; rw [h]; rfl
end
theorem some_types : (Tryz.prog.types.size == 0) = false := by kernel_rfl
theorem b5 : Tryz.prog.book 5 = [5] := book_leaf (by kernel_rfl)
theorem b0 : Tryz.prog.book 4 = [4] := book_leaf (by kernel_rfl)
theorem a1 : Tryz.prog.book 684 = [684, 5] := book_two (by kernel_rfl) (by kernel_rfl) some_types
theorem a2 : Tryz.prog.book 796 = [796, 5] := book_two (by kernel_rfl) (by kernel_rfl) some_types
theorem a3 : Tryz.prog.book 792 = [792, 30] := book_two (by kernel_rfl) (by kernel_rfl) some_types
theorem a4 : Tryz.prog.book 716 = [716, 84] := book_two (by kernel_rfl) (by kernel_rfl) some_types
theorem a9 : Tryz.prog.book 22 = [22, 5] := book_two (by kernel_rfl) (by kernel_rfl) some_types
theorem r5 : Tryz.prog.readableRec 5 = true := by unfold Program.readableRec; rw [b5]; kernel_rfl
theorem r0 : Tryz.prog.readableRec 4 = true := by unfold Program.readableRec; rw [b0]; kernel_rfl
theorem m5 : Tryz.prog.mapsRec 5 = false := by unfold Program.mapsRec; rw [b5]; kernel_rfl
theorem i5 : Tryz.prog.ifacesRec 5 = false := by unfold Program.ifacesRec; rw [b5]; kernel_rfl
theorem i0 : Tryz.prog.ifacesRec 4 = false := by unfold Program.ifacesRec; rw [b0]; kernel_rfl
theorem l5 : Tryz.prog.loopsFrom 5 = false := by unfold Program.loopsFrom; rw [b5]; kernel_rfl
theorem l0 : Tryz.prog.loopsFrom 4 = false := by unfold Program.loopsFrom; rw [b0]; kernel_rfl
theorem w5 : Tryz.prog.wideKeysFrom 5 = false := by unfold Program.wideKeysFrom; rw [b5]; kernel_rfl
theorem w0 : Tryz.prog.wideKeysFrom 4 = false := by unfold Program.wideKeysFrom; rw [b0]; kernel_rfl
theorem v5 : Tryz.prog.veiledRec 5 = false := by unfold Program.veiledRec; rw [b5]; kernel_rfl
theorem v0 : Tryz.prog.veiledRec 4 = false := by unfold Program.veiledRec; rw [b0]; kernel_rfl
theorem c1 : Tryz.prog.veiledRec 684 = false := by unfold Program.veiledRec; rw [a1]; kernel_rfl
theorem c2 : Tryz.prog.veiledRec 796 = false := by unfold Program.veiledRec; rw [a2]; kernel_rfl
theorem c3 : Tryz.prog.veiledRec 792 = false := by unfold Program.veiledRec; rw [a3]; kernel_rfl
theorem c4 : Tryz.prog.veiledRec 716 = false := by unfold Program.veiledRec; rw [a4]; kernel_rfl
theorem r9 : Tryz.prog.readableRec 22 = true := by unfold Program.readableRec; rw [a9]; kernel_rfl
theorem m9 : Tryz.prog.mapsRec 22 = false := by unfold Program.mapsRec; rw [a9]; kernel_rfl
theorem i9 : Tryz.prog.ifacesRec 22 = false := by unfold Program.ifacesRec; rw [a9]; kernel_rfl
theorem p91 : Tryz.prog.partsOf 22 = [5] := by kernel_rfl
theorem p92 : Tryz.prog.partsOf 5 = [] := by kernel_rfl
theorem l9 : Tryz.prog.loopsFrom 22 = false := by
  unfold Program.loopsFrom
  rw [a9]
  simp only [List.any_cons, List.any_nil, p91, p92, b5]
  kernel_rfl
theorem w9 : Tryz.prog.wideKeysFrom 22 = false := by unfold Program.wideKeysFrom; rw [a9]; kernel_rfl
theorem v9 : Tryz.prog.veiledRec 22 = false := by unfold Program.veiledRec; rw [a9]; kernel_rfl
end Go.Proofs.YtbmiedinclieaaaGreatDoor.engineCollects

namespace Go.Proofs.YtbmiedinclieaaaGreatDoor.engineCollects
open Go
theorem f0 : (List.range' 0 150).all (rowFine Tryz.prog) = true := by kernel_rfl
theorem f1 : (List.range' 150 150).all (rowFine Tryz.prog) = true := by kernel_rfl
theorem f2 : (List.range' 300 120).all (rowFine Tryz.prog) = true := by kernel_rfl
theorem f3 : (List.range' 420 120).all (rowFine Tryz.prog) = true := by kernel_rfl
theorem f4 : (List.range' 540 100).all (rowFine Tryz.prog) = true := by kernel_rfl
theorem f5 : (List.range' 640 100).all (rowFine Tryz.prog) = true := by kernel_rfl
theorem f6 : (List.range' 740 108).all (rowFine Tryz.prog) = true := by kernel_rfl
theorem size_is : Tryz.prog.types.size = 848 := by kernel_rfl
theorem chunk {P : Program} {a n : Nat} (h : (List.range' a n).all (rowFine P) = true) {t : Nat} (h1 : a ≤ t) (h2 : t < a + n) : rowFine P t = true :=
  List.all_eq_true.1 h t (List.mem_range'_1.2 ⟨h1, h2⟩)
theorem rows_fine : (List.range Tryz.prog.types.size).all (rowFine Tryz.prog) = true := by
  rw [size_is, List.all_eq_true]
  intro t ht
  have ht := List.mem_range.1 ht
  by_cases g0 : t < 150
  · exact chunk f0 (by omega) (by omega)
  by_cases g1 : t < 300
  · exact chunk f1 (by omega) (by omega)
  by_cases g2 : t < 420
  · exact chunk f2 (by omega) (by omega)
  by_cases g3 : t < 540
  · exact chunk f3 (by omega) (by omega)
  by_cases g4 : t < 640
  · exact chunk f4 (by omega) (by omega)
  by_cases g5 : t < 740
  · exact chunk f5 (by omega) (by omega)
  · exact chunk f6 (by omega) (by omega)
theorem globs_fine : Tryz.prog.globals.all (fun g => decide (g.type < Tryz.prog.types.size)) = true := by rw [size_is]; kernel_rfl
theorem funcs_fine : Tryz.prog.funcs.all (fun f => f.params.all fun t => decide (t < Tryz.prog.types.size)) = true := by rw [size_is]; kernel_rfl
theorem laidOut : laidOutB Tryz.prog = true := by
  unfold laidOutB
  rw [rows_fine, globs_fine, funcs_fine]
  rfl
end Go.Proofs.YtbmiedinclieaaaGreatDoor.engineCollects

namespace Go.Proofs.YtbmiedinclieaaaGreatDoor.engineCollects
open Go
theorem part {p : Nat → Bool} {a n : Nat} (h : (List.range' a n).all p = true) {t : Nat} (h1 : a ≤ t) (h2 : t < a + n) : p t = true :=
  List.all_eq_true.1 h t (List.mem_range'_1.2 ⟨h1, h2⟩)
theorem all_of {p : Nat → Bool} {n : Nat} (h : ∀ t, t < n → p t = true) : (List.range n).all p = true :=
  List.all_eq_true.2 fun t ht => h t (List.mem_range.1 ht)
def mapRow (P : Program) (t : TypeId) : Bool := match P.underlying t with
  | some (.map _ e) => decide (e < P.types.size)
  | _ => true
def keyRow (P : Program) (t : TypeId) : Bool := match P.underlying t with
  | some (.map k _) => (match P.underlying k with
    | some (.array _ _) | some (.struct _) => false
    | _ => true)
  | _ => true
theorem mapsRowed_eq (P : Program) : mapsRowed P = (List.range P.types.size).all (mapRow P) := rfl
theorem plainKeys_eq (P : Program) : P.plainKeys = (List.range P.types.size).all (keyRow P) := rfl
theorem number : Tryz.prog.types.size = 848 := by kernel_rfl
theorem map0 : (List.range' 0 200).all (mapRow Tryz.prog) = true := by kernel_rfl
theorem map1 : (List.range' 200 200).all (mapRow Tryz.prog) = true := by kernel_rfl
theorem map2 : (List.range' 400 140).all (mapRow Tryz.prog) = true := by kernel_rfl
theorem map3 : (List.range' 540 100).all (mapRow Tryz.prog) = true := by kernel_rfl
theorem map4 : (List.range' 640 100).all (mapRow Tryz.prog) = true := by kernel_rfl
theorem map5 : (List.range' 740 108).all (mapRow Tryz.prog) = true := by kernel_rfl
theorem map_all : ∀ t : Nat, t < 848 → mapRow Tryz.prog t = true := by
  intro t ht
  by_cases g0 : t < 200
  · exact part (p := mapRow Tryz.prog) (t := t) map0 (by omega) (by omega)
  by_cases g1 : t < 400
  · exact part (p := mapRow Tryz.prog) (t := t) map1 (by omega) (by omega)
  by_cases g2 : t < 540
  · exact part (p := mapRow Tryz.prog) (t := t) map2 (by omega) (by omega)
  by_cases g3 : t < 640
  · exact part (p := mapRow Tryz.prog) (t := t) map3 (by omega) (by omega)
  by_cases g4 : t < 740
  · exact part (p := mapRow Tryz.prog) (t := t) map4 (by omega) (by omega)
  · exact part (p := mapRow Tryz.prog) (t := t) map5 (by omega) (by omega)
theorem key0 : (List.range' 0 200).all (keyRow Tryz.prog) = true := by kernel_rfl
theorem key1 : (List.range' 200 200).all (keyRow Tryz.prog) = true := by kernel_rfl
theorem key2 : (List.range' 400 140).all (keyRow Tryz.prog) = true := by kernel_rfl
theorem key3 : (List.range' 540 100).all (keyRow Tryz.prog) = true := by kernel_rfl
theorem key4 : (List.range' 640 100).all (keyRow Tryz.prog) = true := by kernel_rfl
theorem key5 : (List.range' 740 108).all (keyRow Tryz.prog) = true := by kernel_rfl
theorem key_all : ∀ t : Nat, t < 848 → keyRow Tryz.prog t = true := by
  intro t ht
  by_cases g0 : t < 200
  · exact part (p := keyRow Tryz.prog) (t := t) key0 (by omega) (by omega)
  by_cases g1 : t < 400
  · exact part (p := keyRow Tryz.prog) (t := t) key1 (by omega) (by omega)
  by_cases g2 : t < 540
  · exact part (p := keyRow Tryz.prog) (t := t) key2 (by omega) (by omega)
  by_cases g3 : t < 640
  · exact part (p := keyRow Tryz.prog) (t := t) key3 (by omega) (by omega)
  by_cases g4 : t < 740
  · exact part (p := keyRow Tryz.prog) (t := t) key4 (by omega) (by omega)
  · exact part (p := keyRow Tryz.prog) (t := t) key5 (by omega) (by omega)
theorem mapsRow : mapsRowed Tryz.prog = true := by
  rw [mapsRowed_eq, number]
  exact all_of map_all
theorem keysPlain : Tryz.prog.plainKeys = true := by
  rw [plainKeys_eq, number]
  exact all_of key_all
end Go.Proofs.YtbmiedinclieaaaGreatDoor.engineCollects

namespace Go.Proofs.YtbmiedinclieaaaGreatDoor.engineCollects
open Go
set_option maxRecDepth 100000 in
theorem heard : Tryz.prog.stopsHeard = true := by kernel_rfl
set_option maxRecDepth 100000 in
theorem mayEnter : Tryz.prog.mayEnter = true := by kernel_rfl
end Go.Proofs.YtbmiedinclieaaaGreatDoor.engineCollects

namespace Go.Proofs.YtbmiedinclieaaaGreatDoor.engineCollects
open Go
theorem and_t {a b : Bool} (h1 : a = true) (h2 : b = true) : (a && b) = true := by rw [h1, h2]; rfl
noncomputable abbrev PP : Program := Tryz.pinned.checked.prog
theorem PP_is : PP = Tryz.prog := rfl
theorem e0 : Tryz.f3.params.toList = [22, 5] := by kernel_rfl
theorem e1 : Tryz.f3.params.toList ++ Rows.engineCollectsSpec.plain.varTypes PP = [22, 5] := by kernel_rfl
theorem e2 : Tryz.f3.resultTypes.toList = [4] := by kernel_rfl
theorem e3 : Tryz.f3.params.toList ++ Rows.engineCollectsSpec.plain.varTypes PP ++ Tryz.f3.resultTypes.toList = [22, 5, 4] := by kernel_rfl
theorem e4 : (Rows.engineCollectsRow.laid.filterMap fun x => (PP.globalNamed x.1).bind fun g => (PP.globals[g]?).map (·.type)) = [716, 684, 792, 796] := by kernel_rfl
set_option maxRecDepth 100000 in
theorem q1 : Rows.engineCollectsRow.wf (OpenSpec.ofChange Rows.engineCollectsSpec) = true := by kernel_rfl
set_option maxRecDepth 100000 in
theorem q2 : laidOutB PP = true := laidOut
set_option maxRecDepth 100000 in
theorem q3 : mapsRowed PP = true := mapsRow
set_option maxRecDepth 100000 in
theorem q4 : Tryz.f3.params.all (PP.readableRec ·) = true := by rw [← Array.all_toList, e0]; simp only [PP_is, List.all_cons, List.all_nil, r5, r9]; rfl
set_option maxRecDepth 100000 in
theorem q5 : namedTie PP Rows.engineCollectsRow.named Rows.engineCollectsSpec.vars = true := by kernel_rfl
set_option maxRecDepth 100000 in
theorem q6 : (Rows.engineCollectsRow.stops == []) = true := by kernel_rfl
set_option maxRecDepth 100000 in
theorem q7 : (PP.stops == []) = true := by kernel_rfl
set_option maxRecDepth 100000 in
theorem q8 : (Rows.engineCollectsRow.knobs == []) = true := by kernel_rfl
set_option maxRecDepth 100000 in
theorem q9 : (PP.stopKnobs == []) = true := by kernel_rfl
set_option maxRecDepth 100000 in
theorem q10 : (Rows.engineCollectsRow.inPlace == PP.inPlace 3) = true := beq_iff_eq.2 j1
set_option maxRecDepth 100000 in
theorem q11 : (Rows.engineCollectsRow.unfollowed == PP.unfollowed 3) = true := beq_iff_eq.2 j2
set_option maxRecDepth 100000 in
theorem q12 : (Rows.engineCollectsRow.recurses == PP.recurses 3) = true := beq_iff_eq.2 j3
set_option maxRecDepth 100000 in
theorem q13 : (Rows.engineCollectsRow.named == PP.varsNamed 3) = true := beq_iff_eq.2 j4
set_option maxRecDepth 100000 in
theorem q14 : (Rows.engineCollectsRow.maps == (Tryz.f3.params.toList ++ Rows.engineCollectsSpec.plain.varTypes PP).any (PP.mapsRec ·)) = true := by rw [e1]; simp only [PP_is, List.any_cons, List.any_nil, m5, m9]; rfl
set_option maxRecDepth 100000 in
theorem q15 : (Rows.engineCollectsRow.ifaces == (Tryz.f3.params.toList ++ Rows.engineCollectsSpec.plain.varTypes PP).any (PP.ifacesRec ·)) = true := by rw [e1]; simp only [PP_is, List.any_cons, List.any_nil, i5, i9]; rfl
set_option maxRecDepth 100000 in
theorem q16 : (Rows.engineCollectsRow.mapsOut == PP.mapsAmong Tryz.f3.resultTypes.toList) = true := by kernel_rfl
set_option maxRecDepth 100000 in
theorem q17 : (Rows.engineCollectsRow.loops == (Tryz.f3.params.toList ++ Rows.engineCollectsSpec.plain.varTypes PP).any (PP.loopsFrom ·)) = true := by rw [e1]; simp only [PP_is, List.any_cons, List.any_nil, l5, l9]; rfl
set_option maxRecDepth 100000 in
theorem q18 : (Rows.engineCollectsRow.wideKeys == (Tryz.f3.params.toList ++ Rows.engineCollectsSpec.plain.varTypes PP ++ Tryz.f3.resultTypes.toList).any (PP.wideKeysFrom ·)) = true := by rw [e3]; simp only [PP_is, List.any_cons, List.any_nil, w5, w9, w0]; rfl
set_option maxRecDepth 100000 in
theorem q19 : Rows.engineCollectsSpec.vars.all (PP.varReadable ·) = true := by kernel_rfl
set_option maxRecDepth 100000 in
theorem q20 : Tryz.f3.resultTypes.all (fun t => PP.readableRec t && decide (t < PP.types.size)) = true := by rw [← Array.all_toList, e2]; simp only [PP_is, List.all_cons, List.all_nil, r0, Bool.true_and, Bool.and_true]; kernel_rfl
set_option maxRecDepth 100000 in
theorem q21 : (Rows.engineCollectsRow.ifacesOut == Tryz.f3.resultTypes.toList.any (PP.ifacesRec ·)) = true := by rw [e2]; simp only [PP_is, List.any_cons, List.any_nil, i0]; rfl
set_option maxRecDepth 100000 in
theorem q22 : (Rows.engineCollectsRow.loopsOut == Tryz.f3.resultTypes.toList.any (PP.loopsFrom ·)) = true := by rw [e2]; simp only [PP_is, List.any_cons, List.any_nil, l0]; rfl
set_option maxRecDepth 100000 in
theorem q23 : (Rows.engineCollectsRow.plainKeys == PP.plainKeys) = true := by rw [show PP.plainKeys = true from keysPlain]; kernel_rfl
set_option maxRecDepth 100000 in
theorem q24 : Rows.engineCollectsRow.shortTexts.isNone = true := by kernel_rfl
set_option maxRecDepth 100000 in
theorem q25 : PP.stopsHeard = true := heard
set_option maxRecDepth 100000 in
theorem q26 : PP.mayEnter = true := mayEnter
set_option maxRecDepth 100000 in
theorem q27 : (Rows.engineCollectsRow.lifted == PP.liftsFinal) = true := by kernel_rfl
set_option maxRecDepth 100000 in
theorem q28 : (PP.make == some Rows.engineCollectsRow.make) = true := by kernel_rfl
set_option maxRecDepth 100000 in
theorem q29 : (Rows.engineCollectsRow.kinds == (if Rows.engineCollectsRow.domain.isEmpty then [] else Tryz.f3.params.toList.map fun t => match PP.underlying t with | some (.int k) => some k | _ => none)) = true := by kernel_rfl
set_option maxRecDepth 100000 in
theorem q30 : (Rows.engineCollectsRow.pinned == Rows.engineCollectsRow.pinnedBy) = true := by kernel_rfl
set_option maxRecDepth 100000 in
theorem q31 : (Rows.engineCollectsRow.veiled == (Tryz.f3.params.toList ++ Rows.engineCollectsSpec.plain.varTypes PP ++ Tryz.f3.resultTypes.toList).any (PP.veiledRec ·)) = true := by rw [e3]; simp only [PP_is, List.any_cons, List.any_nil, v5, v9, v0]; rfl
set_option maxRecDepth 100000 in
theorem q32 : Rows.engineCollectsRow.veiledFits PP Tryz.f3.params.toList (Tryz.f3.params.toList ++ Rows.engineCollectsSpec.plain.varTypes PP ++ Tryz.f3.resultTypes.toList) = true := by
  rw [e3]
  unfold OpenClaim.veiledFits
  rw [e4]
  simp only [PP_is, List.cons_append, List.nil_append, List.all_cons, List.all_nil, own_of v5, own_of v9, own_of v0, own_of c1, own_of c2, own_of c3, own_of c4]
  rfl
set_option maxRecDepth 100000 in
theorem closed : joinedFacts Tryz.pinned.checked.prog 3 Tryz.f3 Rows.engineCollectsSpec Rows.engineCollectsRow = true := by
  unfold joinedFacts
  exact and_t (and_t (and_t (and_t (and_t (and_t (and_t (and_t (and_t (and_t (and_t (and_t (and_t (and_t (and_t (and_t (and_t (and_t (and_t (and_t (and_t (and_t (and_t (and_t (and_t (and_t (and_t (and_t (and_t (and_t (and_t q1 q2) q3) q4) q5) q6) q7) q8) q9) q10) q11) q12) q13) q14) q15) q16) q17) q18) q19) q20) q21) q22) q23) q24) q25) q26) q27) q28) q29) q30) q31) q32
end Go.Proofs.YtbmiedinclieaaaGreatDoor.engineCollects
