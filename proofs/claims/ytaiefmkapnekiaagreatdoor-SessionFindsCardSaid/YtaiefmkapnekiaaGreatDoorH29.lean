/-
  The closed facts of the row, joined.
-/
import Derived.Test.YtaiefmkapnekiaaGreatDoorH24
import Derived.Test.YtaiefmkapnekiaaGreatDoorH25
import Derived.Test.YtaiefmkapnekiaaGreatDoorH26
import Derived.Test.YtaiefmkapnekiaaGreatDoorH27
import Derived.Test.YtaiefmkapnekiaaGreatDoorH28
import Derived.JoinedOf
set_option linter.all false
namespace Go.Proofs.YtaiefmkapnekiaaGreatDoor.sessionFinds
open Go.Proofs.YtaiefmkapnekiaaGreatDoor.facts
open Go
theorem and_t {a b : Bool} (h1 : a = true) (h2 : b = true) : (a && b) = true := by rw [h1, h2]; rfl
noncomputable abbrev PP : Program := Tryz.pinned.checked.prog
theorem PP_is : PP = Tryz.prog := rfl
theorem e0 : Tryz.f4.params.toList = [5, 5, 71] := by kernel_rfl
theorem e1 : Tryz.f4.params.toList ++ Rows.sessionFindsSpec.plain.varTypes PP = [5, 5, 71] := by kernel_rfl
theorem e2 : Tryz.f4.resultTypes.toList = [4] := by kernel_rfl
theorem e3 : Tryz.f4.params.toList ++ Rows.sessionFindsSpec.plain.varTypes PP ++ Tryz.f4.resultTypes.toList = [5, 5, 71, 4] := by kernel_rfl
theorem e4 : (Rows.sessionFindsRow.laid.filterMap fun x => (PP.globalNamed x.1).bind fun g => (PP.globals[g]?).map (·.type)) = [655, 784, 780, 630] := by kernel_rfl
set_option maxRecDepth 100000 in
theorem q1 : Rows.sessionFindsRow.wf (OpenSpec.ofChange Rows.sessionFindsSpec) = true := by kernel_rfl
set_option maxRecDepth 100000 in
theorem q2 : laidOutB PP = true := laidOut
set_option maxRecDepth 100000 in
theorem q3 : mapsRowed PP = true := mapsRow
set_option maxRecDepth 100000 in
theorem q4 : Tryz.f4.params.all (PP.readableRec ·) = true := by rw [← Array.all_toList, e0]; simp only [PP_is, List.all_cons, List.all_nil, r5, r8]; rfl
set_option maxRecDepth 100000 in
theorem q5 : namedTie PP Rows.sessionFindsRow.named Rows.sessionFindsSpec.vars = true := by kernel_rfl
set_option maxRecDepth 100000 in
theorem q6 : (Rows.sessionFindsRow.stops == []) = true := by kernel_rfl
set_option maxRecDepth 100000 in
theorem q7 : (PP.stops == []) = true := by kernel_rfl
set_option maxRecDepth 100000 in
theorem q8 : (Rows.sessionFindsRow.knobs == []) = true := by kernel_rfl
set_option maxRecDepth 100000 in
theorem q9 : (PP.stopKnobs == []) = true := by kernel_rfl
set_option maxRecDepth 100000 in
theorem q10 : (Rows.sessionFindsRow.inPlace == PP.inPlace 4) = true := beq_iff_eq.2 j1
set_option maxRecDepth 100000 in
theorem q11 : (Rows.sessionFindsRow.unfollowed == PP.unfollowed 4) = true := beq_iff_eq.2 j2
set_option maxRecDepth 100000 in
theorem q12 : (Rows.sessionFindsRow.recurses == PP.recurses 4) = true := beq_iff_eq.2 j3
set_option maxRecDepth 100000 in
theorem q13 : (Rows.sessionFindsRow.named == PP.varsNamed 4) = true := beq_iff_eq.2 j4
set_option maxRecDepth 100000 in
theorem q14 : (Rows.sessionFindsRow.maps == (Tryz.f4.params.toList ++ Rows.sessionFindsSpec.plain.varTypes PP).any (PP.mapsRec ·)) = true := by rw [e1]; simp only [PP_is, List.any_cons, List.any_nil, m5, m8]; rfl
set_option maxRecDepth 100000 in
theorem q15 : (Rows.sessionFindsRow.ifaces == (Tryz.f4.params.toList ++ Rows.sessionFindsSpec.plain.varTypes PP).any (PP.ifacesRec ·)) = true := by rw [e1]; simp only [PP_is, List.any_cons, List.any_nil, i5, i8]; rfl
set_option maxRecDepth 100000 in
theorem q16 : (Rows.sessionFindsRow.mapsOut == PP.mapsAmong Tryz.f4.resultTypes.toList) = true := by kernel_rfl
set_option maxRecDepth 100000 in
theorem q17 : (Rows.sessionFindsRow.loops == (Tryz.f4.params.toList ++ Rows.sessionFindsSpec.plain.varTypes PP).any (PP.loopsFrom ·)) = true := by rw [e1]; simp only [PP_is, List.any_cons, List.any_nil, l5, l8]; rfl
set_option maxRecDepth 100000 in
theorem q18 : (Rows.sessionFindsRow.wideKeys == (Tryz.f4.params.toList ++ Rows.sessionFindsSpec.plain.varTypes PP ++ Tryz.f4.resultTypes.toList).any (PP.wideKeysFrom ·)) = true := by rw [e3]; simp only [PP_is, List.any_cons, List.any_nil, w5, w8, w0]; rfl
set_option maxRecDepth 100000 in
theorem q19 : Rows.sessionFindsSpec.vars.all (PP.varReadable ·) = true := by kernel_rfl
set_option maxRecDepth 100000 in
theorem q20 : Tryz.f4.resultTypes.all (fun t => PP.readableRec t && decide (t < PP.types.size)) = true := by rw [← Array.all_toList, e2]; simp only [PP_is, List.all_cons, List.all_nil, r0, Bool.true_and, Bool.and_true]; kernel_rfl
set_option maxRecDepth 100000 in
theorem q21 : (Rows.sessionFindsRow.ifacesOut == Tryz.f4.resultTypes.toList.any (PP.ifacesRec ·)) = true := by rw [e2]; simp only [PP_is, List.any_cons, List.any_nil, i0]; rfl
set_option maxRecDepth 100000 in
theorem q22 : (Rows.sessionFindsRow.loopsOut == Tryz.f4.resultTypes.toList.any (PP.loopsFrom ·)) = true := by rw [e2]; simp only [PP_is, List.any_cons, List.any_nil, l0]; rfl
set_option maxRecDepth 100000 in
theorem q23 : (Rows.sessionFindsRow.plainKeys == PP.plainKeys) = true := by rw [show PP.plainKeys = true from keysPlain]; kernel_rfl
set_option maxRecDepth 100000 in
theorem q24 : Rows.sessionFindsRow.shortTexts.isNone = true := by kernel_rfl
set_option maxRecDepth 100000 in
theorem q25 : PP.stopsHeard = true := heard
set_option maxRecDepth 100000 in
theorem q26 : PP.mayEnter = true := mayEnter
set_option maxRecDepth 100000 in
theorem q27 : (Rows.sessionFindsRow.lifted == PP.liftsFinal) = true := by kernel_rfl
set_option maxRecDepth 100000 in
theorem q28 : (PP.make == some Rows.sessionFindsRow.make) = true := by kernel_rfl
set_option maxRecDepth 100000 in
theorem q29 : (Rows.sessionFindsRow.kinds == (if Rows.sessionFindsRow.domain.isEmpty then [] else Tryz.f4.params.toList.map fun t => match PP.underlying t with | some (.int k) => some k | _ => none)) = true := by kernel_rfl
set_option maxRecDepth 100000 in
theorem q30 : (Rows.sessionFindsRow.pinned == Rows.sessionFindsRow.pinnedBy) = true := by kernel_rfl
set_option maxRecDepth 100000 in
theorem q31 : (Rows.sessionFindsRow.veiled == (Tryz.f4.params.toList ++ Rows.sessionFindsSpec.plain.varTypes PP ++ Tryz.f4.resultTypes.toList).any (PP.veiledRec ·)) = true := by rw [e3]; simp only [PP_is, List.any_cons, List.any_nil, v5, v8, v0]; rfl
set_option maxRecDepth 100000 in
theorem q32 : Rows.sessionFindsRow.veiledFits PP Tryz.f4.params.toList (Tryz.f4.params.toList ++ Rows.sessionFindsSpec.plain.varTypes PP ++ Tryz.f4.resultTypes.toList) = true := by
  rw [e3]
  unfold OpenClaim.veiledFits
  rw [e4]
  simp only [PP_is, List.cons_append, List.nil_append, List.all_cons, List.all_nil, own_of v5, own_of v8, own_of v0, own_of c1, own_of c2, own_of c3, own_of c4]
  rfl
set_option maxRecDepth 100000 in
theorem closed : joinedFacts Tryz.pinned.checked.prog 4 Tryz.f4 Rows.sessionFindsSpec Rows.sessionFindsRow = true := by
  unfold joinedFacts
  exact and_t (and_t (and_t (and_t (and_t (and_t (and_t (and_t (and_t (and_t (and_t (and_t (and_t (and_t (and_t (and_t (and_t (and_t (and_t (and_t (and_t (and_t (and_t (and_t (and_t (and_t (and_t (and_t (and_t (and_t (and_t q1 q2) q3) q4) q5) q6) q7) q8) q9) q10) q11) q12) q13) q14) q15) q16) q17) q18) q19) q20) q21) q22) q23) q24) q25) q26) q27) q28) q29) q30) q31) q32
end Go.Proofs.YtaiefmkapnekiaaGreatDoor.sessionFinds
