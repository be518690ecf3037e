/-
  Contracts: the words of the kinds, the names of a list of numbers, the text of a verdict (the program's and the reference's).
  Contracts: the text of a verdict (the program's and the reference's), the printed list, the size limit.
  Plain: what ast.Check, ast.Vars and ast.Order answer.
  Contracts: a string split at its blanks (the reference's split; strings.Split), the index of a string, equal lists of numbers.
  Contracts: strings.Split at a blank, the index of a string in a list.
  Contracts: the verdict that a text says (the reference's Parse and the program's ParseVerdict).
  MADE BY PROGRAM (wip/gen/gen.py): functions 88 69 41 42 100 71 47 76 72 as marked code, and their claims written out.
  Contracts: value.Valid, ast.valid, checkHead, checkAggregate, checkAtom, checkItems.
  Contracts: checkHead, checkAggregate, checkAtom, checkItems.
  Contracts: checkAtom, checkItems.
  Contracts: ast.Vars and its closure, ast.positive.
  MADE BY PROGRAM (wip/gen/gen.py): functions 70 73 43 44 17 46 75 as marked code, and their claims written out.
  Contracts: slices.Clone over strings, slices.Grow at nil, slices.Concat of two, ast.positive.
  Contracts: slices.Grow at nil, slices.Concat of two lists, ast.positive.
  Contract: ast.positive.
-/
import Derived.Test.YthbdeaeghipliaaGreatDoorK3
import Derived.Lib.IndexLaws
import Derived.MapKept
import Derived.KernelRfl
set_option linter.unusedSimpArgs false
set_option linter.unusedVariables false
set_option linter.unusedSectionVars false
namespace Go.Proofs.YthbdeaeghipliaaGreatDoor
open Go.Clo

def wordL : List ByteArray := [⟨#[97, 99, 99, 101, 112, 116, 101, 100]⟩, ⟨#[99, 121, 99, 108, 105, 99]⟩, ⟨#[112, 97, 116, 104]⟩, ⟨#[116, 114, 105, 111]⟩]
theorem dBsl_str (s z : ByteArray) (k : List Value → Prop) : dBsl 1 1 [.string z] [(0, .string s)] k = k [.string s] := by
  rw [dBsl_eq]
  show (if oneCells [Value.string s] = true then k [Value.string s] else False) = _
  exact if_pos (show oneCells [Value.string s] = true from rfl)
theorem dBsl_i64 (K : IntKind) (s z : Int) (k : List Value → Prop) : dBsl 1 1 [.int K z] [(0, .int K s)] k = k [.int K s] := by
  rw [dBsl_eq]
  show (if oneCells [Value.int K s] = true then k [Value.int K s] else False) = _
  exact if_pos (show oneCells [Value.int K s] = true from rfl)
theorem dBsl_words (k : List Value → Prop) : dBsl 4 1 [.string ⟨#[]⟩] [(0, (.string ⟨#[97, 99, 99, 101, 112, 116, 101, 100]⟩)), (1, (.string ⟨#[99, 121, 99, 108, 105, 99]⟩)), (2, (.string ⟨#[112, 97, 116, 104]⟩)), (3, (.string ⟨#[116, 114, 105, 111]⟩))] k = k (strs wordL) := by
  rw [dBsl_eq]
  show (if oneCells (strs wordL) = true then k (strs wordL) else False) = _
  exact if_pos (show oneCells (strs wordL) = true from rfl)
theorem words15 (H : Heap) (nx : Nat) : Ans Tryz.prog 35 [] H nx fun r H' nx' => .slice (some ⟨nx, 0, none⟩) 4 4 = r ∧ hs H nx (some (.cells (strs wordL) 0)) = H' ∧ nx + 1 = nx' := by
  refine spec35 ?_
  unfold F35
  simp (disch := first | omega | assumption | exact shr_lt (by assumption) | exact ndiff32 (by assumption) | exact below_lt (by omega) | fail) only [wNew_eq, forceV_eq, Yld.val, and_true, true_and, dBsl_words]
theorem words20 (H : Heap) (nx : Nat) : Ans Tryz.prog 50 [] H nx fun r H' nx' => .slice (some ⟨nx, 0, none⟩) 4 4 = r ∧ hs H nx (some (.cells (strs wordL) 0)) = H' ∧ nx + 1 = nx' := by
  refine spec50 ?_
  unfold F50
  simp (disch := first | omega | assumption | exact shr_lt (by assumption) | exact ndiff32 (by assumption) | exact below_lt (by omega) | fail) only [wNew_eq, forceV_eq, Yld.val, and_true, true_and, dBsl_words]

/-! Append to a literal. -/
def pick (vs : List ByteArray) (i : Int) : Option ByteArray := if 0 ≤ i then vs[i.toNat]? else none
def listOf (vs : List ByteArray) : List Int → Option (List ByteArray)
  | [] => some []
  | i :: r => match pick vs i with
    | some z => (listOf vs r).map (z :: ·)
    | none => none
theorem listOf_snoc {vs : List ByteArray} {x : Int} {z : ByteArray} (hx : pick vs x = some z) : ∀ {l : List Int} {zs : List ByteArray}, listOf vs l = some zs → listOf vs (l ++ [x]) = some (zs ++ [z])
  | [], zs, h => by
    cases h
    simp [listOf, hx]
  | i :: r, zs, h => by
    unfold listOf at h
    cases hp : pick vs i with
    | none => rw [hp] at h; cases h
    | some y =>
      rw [hp] at h
      obtain ⟨ys, h1, rfl⟩ := Option.map_eq_some_iff.1 h
      rw [List.cons_append, listOf, hp, listOf_snoc hx h1]
      rfl
theorem listOf_bad {vs : List ByteArray} {x : Int} (hx : pick vs x = none) : ∀ {l : List Int}, x ∈ l → listOf vs l = none
  | i :: r, h => by
    rcases List.mem_cons.1 h with rfl | h
    · rw [listOf, hx]
    · rw [listOf]
      cases pick vs i with
      | none => rfl
      | some z => rw [listOf_bad hx h]; rfl
theorem listOf_mem {vs : List ByteArray} : ∀ {l : List Int} {zs : List ByteArray}, listOf vs l = some zs → ∀ z ∈ zs, z ∈ vs
  | [], zs, h => by cases h; simp
  | i :: r, zs, h => by
    unfold listOf at h
    cases hp : pick vs i with
    | none => rw [hp] at h; cases h
    | some y =>
      rw [hp] at h
      obtain ⟨ys, h1, rfl⟩ := Option.map_eq_some_iff.1 h
      intro z hz
      rcases List.mem_cons.1 hz with rfl | hz
      · unfold pick at hp
        split at hp
        · exact List.mem_of_getElem? hp
        · cases hp
      · exact listOf_mem h1 z hz
theorem listOf_length {vs : List ByteArray} : ∀ {l : List Int} {zs : List ByteArray}, listOf vs l = some zs → zs.length = l.length
  | [], zs, h => by cases h; rfl
  | i :: r, zs, h => by
    unfold listOf at h
    cases hp : pick vs i with
    | none => rw [hp] at h; cases h
    | some y =>
      rw [hp] at h
      obtain ⟨ys, h1, rfl⟩ := Option.map_eq_some_iff.1 h
      simp [listOf_length h1]

set_option maxHeartbeats 1000000 in
theorem named16 (A B : Option Addr) (vs : List ByteArray) (l : List Int) (capA capB : Nat) (H : Heap) (nx : Nat) (hS : Sl H nx A (strs vs)) (hB : Sl H nx B (i64s l)) (hl : l.length ≤ 1000000) : Ans Tryz.prog 36 [.slice A vs.length capA, .slice B l.length capB] H nx fun r H' nx' => (∀ zs, listOf vs l = some zs → ∃ v, r = .tuple ⟨[v, .int .i64 0]⟩ ∧ AccL nx H' nx' v (strs zs)) ∧ (listOf vs l = none → r = .tuple ⟨[.slice none 0 0, .int .i64 3]⟩) ∧ Ext H nx H' nx' := by
  refine spec36 ?_
  unfold F36
  simp (disch := first | omega | assumption | exact shr_lt (by assumption) | exact ndiff32 (by assumption) | exact below_lt (by omega) | fail) only [wLen_slice, wNew_eq, forceV_eq, Yld.val, dBsl_none]
  refine wLoop_rule (fun m L H' nx' => ∃ (i : Nat) (v : Value) (zs : List ByteArray), m + i = l.length ∧ L = [v, .int .i64 (i : Int)] ∧ listOf vs (l.take i) = some zs ∧ AccL nx H' nx' v (strs zs) ∧ Ext H nx H' nx') ?_ (m := l.length) ⟨0, _, [], by omega, rfl, rfl, .inr ⟨rfl, nx, Nat.le_refl _, by omega, rfl, getH_same _ _ _⟩, (Ext.refl H nx).new _ (Nat.le_refl _) (by omega)⟩
  rintro m ih L H1 n1 ⟨i, v, zs, hm, rfl, hzs, hacc, hE⟩ hih
  simp (disch := first | omega | assumption | exact shr_lt (by assumption) | exact ndiff32 (by assumption) | exact below_lt (by omega) | fail) only [List.getD_cons_zero, List.getD_cons_succ, wBin_lss, wIf_bool, wBin_add64]
  by_cases hi : i < l.length
  · have hi' : (i : Int) < (l.length : Int) := by omega
    obtain ⟨b, o, row, rfl, hb, hrow, hget⟩ := (hB.ext hE).open (i := i) (by rw [i64s_length]; exact hi)
    have hx : l[i]? = some l[i] := List.getElem?_eq_getElem hi
    generalize l[i] = x at hx
    have hmem : x ∈ l := List.mem_of_getElem? hx
    by_cases h1 : x < 0
    · simp (disch := first | omega | assumption | exact shr_lt (by assumption) | exact ndiff32 (by assumption) | exact below_lt (by omega) | fail) only [List.getD_cons_zero, wBin_lss, wBin_geq, wIf_bool, wGuard_false, wLd_none, cellP_one, Option.elim_some, decide_true, if_true, wIdx_slice, Int.toNat_natCast, Nat.mul_one, wJoin_eq, hi', ldP_row hrow, hget _ _ (i64s_get hx), h1]
      have hp : pick vs x = none := if_neg (by omega)
      have := listOf_bad hp hmem
      exact ⟨(fun zs h => by rw [this] at h; cases h), (by first | exact hE | exact ⟨fun _ => trivial, hE⟩)⟩
    · by_cases h2 : (vs.length : Int) ≤ x
      · simp (disch := first | omega | assumption | exact shr_lt (by assumption) | exact ndiff32 (by assumption) | exact below_lt (by omega) | fail) only [List.getD_cons_zero, wBin_lss, wBin_geq, wIf_bool, wGuard_false, wLd_none, cellP_one, Option.elim_some, decide_true, decide_false, if_true, if_false, Bool.false_eq_true, wIdx_slice, Int.toNat_natCast, Nat.mul_one, wJoin_eq, hi', ldP_row hrow, hget _ _ (i64s_get hx), h1, h2]
        have hp : pick vs x = none := by
          unfold pick
          rw [if_pos (by omega), List.getElem?_eq_none (by omega)]
        have := listOf_bad hp hmem
        exact ⟨(fun zs h => by rw [this] at h; cases h), (by first | exact hE | exact ⟨fun _ => trivial, hE⟩)⟩
      · obtain ⟨b2, o2, row2, rfl, hb2, hrow2, hget2⟩ := (hS.ext hE).open (i := x.toNat) (by rw [strs_length]; omega)
        have hz : vs[x.toNat]? = some (vs[x.toNat]'(by omega)) := List.getElem?_eq_getElem (by omega)
        generalize (vs[x.toNat]'(by omega)) = z at hz
        have hp : pick vs x = some z := by unfold pick; rw [if_pos (by omega), hz]
        simp (disch := first | omega | assumption | exact shr_lt (by assumption) | exact ndiff32 (by assumption) | exact below_lt (by omega) | fail) only [List.getD_cons_zero, wBin_lss, wBin_geq, wIf_bool, wGuard_false, wLd_none, cellP_one, Option.elim_some, decide_true, decide_false, if_true, if_false, Bool.false_eq_true, wIdx_slice, Int.toNat_natCast, Nat.mul_one, wJoin_eq, hi', ldP_row hrow, hget _ _ (i64s_get hx), h1, h2, ldP_row hrow2, hget2 _ _ (strs_get hz), dBsl_str]
        have hE2 : Ext H nx (hs H1 n1 (some (.cells [.string z] 0))) (n1 + 1) := hE.new _ hE.le (by omega)
        refine wApp_accL (hacc.ext ((Ext.refl H1 n1).new _ (Nat.le_refl _) (by omega))) (src_new (getH_same _ _ _) rfl (by omega)) rfl (by omega) (by rw [strs_length, listOf_length hzs, List.length_take]; omega) hE2 (by have := hE.le; omega) ?_
        intro v' H' hacc' hE' _
        refine hih (m - 1) _ _ _ (by omega) ⟨i + 1, v', zs ++ [z], by omega, by simp, ?_, by simpa [strs] using hacc', hE'⟩
        rw [List.take_add_one, hx]
        exact listOf_snoc hp hzs
  · have hi' : ¬ (i : Int) < (l.length : Int) := by omega
    simp (disch := first | omega | assumption | exact shr_lt (by assumption) | exact ndiff32 (by assumption) | exact below_lt (by omega) | fail) only [decide_false, if_false, Bool.false_eq_true, hi']
    rw [List.take_of_length_le (by omega)] at hzs
    exact ⟨(fun zs' h => by rw [hzs] at h; cases h; exact ⟨_, rfl, hacc⟩), (fun h => by rw [hzs] at h; cases h), hE⟩

/-! Text. -/
theorem wBin_stradd (a b : ByteArray) (h : a.size + b.size ≤ 1000000) (k : VP) : wBin .add (.string a) (.string b) k = k (.string (a ++ b)) := by
  rw [wBin_eq]
  have : ¬ (((a.size + b.size : Nat) : Int) > IntKind.i64.max) := by
    have : IntKind.i64.max = 9223372036854775807 := by decide
    omega
  simp only [binV, strV, if_neg this, Option.elim_some]
def sp : ByteArray := ⟨#[32]⟩
/-- Each part after a blank. -/
def catS (zs : List ByteArray) : ByteArray := zs.foldl (fun s z => s ++ sp ++ z) ⟨#[]⟩
theorem catS_snoc (zs : List ByteArray) (z : ByteArray) : catS (zs ++ [z]) = catS zs ++ sp ++ z := by simp [catS, List.foldl_append]
theorem catS_size (zs : List ByteArray) (h : ∀ z ∈ zs, z.size ≤ 60) : (catS zs).size ≤ 61 * zs.length := by
  have : ∀ (zs : List ByteArray) (s : ByteArray), (∀ z ∈ zs, z.size ≤ 60) → (zs.foldl (fun s z => s ++ sp ++ z) s).size ≤ s.size + 61 * zs.length := by
    intro zs
    induction zs with
    | nil => intro s _; simp
    | cons z zs ih =>
      intro s h
      have h1 := ih (s ++ sp ++ z) fun y hy => h y (List.mem_cons_of_mem _ hy)
      have h2 := h z (by simp)
      have h3 : (s ++ sp ++ z).size = s.size + 1 + z.size := by rw [ByteArray.size_append, ByteArray.size_append]; rfl
      simp only [List.foldl_cons, List.length_cons]
      omega
  have := this zs ⟨#[]⟩ h
  have e : (⟨#[]⟩ : ByteArray).size = 0 := rfl
  unfold catS
  omega
theorem catS_data (zs : List ByteArray) : (catS zs).data.toList = Lib.joinTail [32] (zs.map (·.data.toList)) := by
  have : ∀ (zs : List ByteArray) (s : ByteArray), (zs.foldl (fun s z => s ++ sp ++ z) s).data.toList = s.data.toList ++ Lib.joinTail [32] (zs.map (·.data.toList)) := by
    intro zs
    induction zs with
    | nil => intro s; simp [Lib.joinTail]
    | cons z zs ih =>
      intro s
      rw [List.foldl_cons, ih]
      have e : (s ++ sp ++ z).data.toList = s.data.toList ++ [32] ++ z.data.toList := by
        rw [ByteArray.data_append, ByteArray.data_append]; simp [sp]
      rw [e]
      simp [Lib.joinTail]
  rw [catS, this]; simp
theorem join_cat (w : ByteArray) (zs : List ByteArray) : joinS (w :: zs) sp = w ++ catS zs := by
  apply bytes_eq
  rw [ByteArray.toList_eq, ByteArray.toList_eq, ByteArray.data_append, Array.toList_append, catS_data]
  simp only [joinS, List.map_cons, Lib.join_cons, List.toList_toArray]
  rfl

theorem joined17 (f : ByteArray) (lo : Nat) (v : Value) (zs : List ByteArray) (H : Heap) (nx : Nat) (hacc : AccL lo H nx v (strs zs)) (hz : ∀ z ∈ zs, z.size ≤ 60) (hf : f.size ≤ 60) (hl : zs.length ≤ 1000) : Ans Tryz.prog 20 [.string f, v] H nx fun r H' nx' => .string (f ++ catS zs) = r ∧ Ext H nx H' nx' := by
  refine spec20 ?_
  unfold F20
  obtain ⟨A, rfl, hS, hA0⟩ := hacc.sl
  have hX : Ext H nx (hs H nx (some (.cells [.string f] 0))) (nx + 1) := (Ext.refl H nx).new _ (Nat.le_refl _) (by omega)
  have hsize : (joinS (f :: zs) sp).size ≤ 1000000 := by
    rw [join_cat, ByteArray.size_append]
    have := catS_size zs hz
    omega
  simp (disch := first | omega | assumption | exact shr_lt (by assumption) | exact ndiff32 (by assumption) | exact below_lt (by omega) | fail) only [wNew_eq, forceV_eq, Yld.val, dBsl_str]
  have hsrc : Go.Clo.Src (hs H nx (some (.cells [.string f] 0))) 1 (.slice A (strs zs).length (strs zs).length) (strs zs).length (strs zs) := src_any (hS.ext hX) (hA0.ext hX) (by simp) (by omega)
  by_cases h0 : zs = []
  · subst h0
    have hsrc' : Go.Clo.Src (hs H nx (some (.cells [.string f] 0))) 1 (.slice A (strs []).length (strs []).length) 0 [] := hsrc
    rw [wApp_lit0 (getH_same _ _ _) (by rfl) hsrc' (by omega) (by omega)]
    refine wCall_rule (join33 _ [f] sp 1 _ _ (fun i u hu => ⟨nx, 0, [.string f], rfl, Nat.lt_succ_self _, by simp [rowOf, getH_same, Blk.row], by simpa [strs] using hu⟩) (by simp) (by simp) (by simp) hsize) ?_
    rintro _ _ _ ⟨rfl, rfl, rfl⟩
    exact ⟨by rw [join_cat], hX.hs (Nat.le_refl _)⟩
  · have hpos : 0 < (strs zs).length := by rw [strs_length]; exact List.length_pos_iff.2 h0
    have hlen := strs_length zs
    rw [wApp_lit (by omega) (getH_same _ _ _) (by rfl) hsrc hpos (oneCells_strs zs) (by omega) (by omega)]
    have e1 : 1 + (strs zs).length = (f :: zs).length := by rw [strs_length, List.length_cons]; omega
    have e2 : [Value.string f] ++ strs zs = strs (f :: zs) := rfl
    rw [e1, e2]
    refine wCall_rule (join33 _ (f :: zs) sp _ _ _ (fun i u hu => ⟨nx + 1, 0, strs (f :: zs), rfl, Nat.lt_succ_self _, by simp [rowOf, getH_same, Blk.row], by simpa using hu⟩) (by simp) (Nat.le_refl _) (by simp; omega) hsize) ?_
    rintro _ _ _ ⟨rfl, rfl, rfl⟩
    exact ⟨by rw [join_cat], hX.new _ (by omega) (by omega)⟩

set_option maxHeartbeats 1000000 in
theorem list19 (A B : Option Addr) (vs : List ByteArray) (l : List Int) (capA capB : Nat) (H : Heap) (nx : Nat) (hS : Sl H nx A (strs vs)) (hB : Sl H nx B (i64s l)) (hv : Short vs) (hl : l.length ≤ 1000) : Ans Tryz.prog 32 [.slice A vs.length capA, .slice B l.length capB] H nx fun r H' nx' => (∀ zs, listOf vs l = some zs → .tuple ⟨[.string (catS zs), .int .i64 0]⟩ = r) ∧ (listOf vs l = none → .tuple ⟨[.string ⟨#[]⟩, .int .i64 3]⟩ = r) ∧ H = H' ∧ nx = nx' := by
  refine spec32 ?_
  unfold F32
  refine wLoop_rule (fun m L H' nx' => ∃ (i : Nat) (zs : List ByteArray), m + i = l.length ∧ L = [.string (catS zs), .int .i64 (i : Int)] ∧ listOf vs (l.take i) = some zs ∧ H = H' ∧ nx = nx') ?_ (m := l.length) ⟨0, [], by omega, rfl, rfl, rfl, rfl⟩
  rintro m ih L _ _ ⟨i, zs, hm, rfl, hzs, rfl, rfl⟩ hih
  simp (disch := first | omega | assumption | exact shr_lt (by assumption) | exact ndiff32 (by assumption) | exact below_lt (by omega) | fail) only [List.getD_cons_zero, List.getD_cons_succ, wBin_lss, wIf_bool, wLen_slice, forceV_eq, and_true, and_self, wBin_add64]
  by_cases hi : i < l.length
  · have hi' : (i : Int) < (l.length : Int) := by omega
    obtain ⟨b, o, row, rfl, hb, hrow, hget⟩ := hB.open (i := i) (by rw [i64s_length]; exact hi)
    have hx : l[i]? = some l[i] := List.getElem?_eq_getElem hi
    generalize l[i] = x at hx
    have hmem : x ∈ l := List.mem_of_getElem? hx
    by_cases h1 : x < 0
    · simp (disch := first | omega | assumption | exact shr_lt (by assumption) | exact ndiff32 (by assumption) | exact below_lt (by omega) | fail) only [List.getD_cons_zero, wBin_lss, wBin_geq, wIf_bool, wGuard_false, wLd_none, cellP_one, Option.elim_some, decide_true, if_true, and_true, and_self, wIdx_slice, Int.toNat_natCast, Nat.mul_one, wJoin_eq, hi', ldP_row hrow, hget _ _ (i64s_get hx), h1]
      have hp : pick vs x = none := if_neg (by omega)
      have := listOf_bad hp hmem
      exact ⟨(fun zs h => by rw [this] at h; cases h), fun _ => trivial⟩
    · by_cases h2 : (vs.length : Int) ≤ x
      · simp (disch := first | omega | assumption | exact shr_lt (by assumption) | exact ndiff32 (by assumption) | exact below_lt (by omega) | fail) only [List.getD_cons_zero, wBin_lss, wBin_geq, wIf_bool, wGuard_false, wLd_none, cellP_one, Option.elim_some, decide_true, decide_false, if_true, if_false, Bool.false_eq_true, and_true, and_self, wIdx_slice, Int.toNat_natCast, Nat.mul_one, wJoin_eq, hi', ldP_row hrow, hget _ _ (i64s_get hx), h1, h2]
        have hp : pick vs x = none := by
          unfold pick
          rw [if_pos (by omega), List.getElem?_eq_none (by omega)]
        have := listOf_bad hp hmem
        exact ⟨(fun zs h => by rw [this] at h; cases h), fun _ => trivial⟩
      · obtain ⟨b2, o2, row2, rfl, hb2, hrow2, hget2⟩ := hS.open (i := x.toNat) (by rw [strs_length]; omega)
        have hz : vs[x.toNat]? = some (vs[x.toNat]'(by omega)) := List.getElem?_eq_getElem (by omega)
        generalize (vs[x.toNat]'(by omega)) = z at hz
        have hp : pick vs x = some z := by unfold pick; rw [if_pos (by omega), hz]
        have hz60 := hv.get hz
        have hcs := catS_size zs fun y hy => hv y (listOf_mem hzs y hy)
        rw [listOf_length hzs, List.length_take] at hcs
        have a1 := fun k => wBin_stradd (catS zs) sp (by have : sp.size = 1 := rfl; omega) k
        have a2 := fun k => wBin_stradd (catS zs ++ sp) z (by rw [ByteArray.size_append]; have : sp.size = 1 := rfl; omega) k
        have e : (⟨#[32]⟩ : ByteArray) = sp := rfl
        simp (disch := first | omega | assumption | exact shr_lt (by assumption) | exact ndiff32 (by assumption) | exact below_lt (by omega) | fail) only [List.getD_cons_zero, wBin_lss, wBin_geq, wIf_bool, wGuard_false, wLd_none, cellP_one, Option.elim_some, decide_true, decide_false, if_true, if_false, Bool.false_eq_true, and_true, and_self, wIdx_slice, Int.toNat_natCast, Nat.mul_one, wJoin_eq, hi', ldP_row hrow, hget _ _ (i64s_get hx), h1, h2, ldP_row hrow2, hget2 _ _ (strs_get hz), e, a1, a2]
        refine hih (m - 1) _ _ _ (by omega) ⟨i + 1, zs ++ [z], by omega, by simp [catS_snoc], ?_, rfl, rfl⟩
        rw [List.take_add_one, hx]
        exact listOf_snoc hp hzs
  · have hi' : ¬ (i : Int) < (l.length : Int) := by omega
    simp (disch := first | omega | assumption | exact shr_lt (by assumption) | exact ndiff32 (by assumption) | exact below_lt (by omega) | fail) only [decide_false, if_false, Bool.false_eq_true, hi']
    rw [List.take_of_length_le (by omega)] at hzs
    exact ⟨(fun zs' h => by rw [hzs] at h; cases h; rfl), (fun h => by rw [hzs] at h; cases h)⟩
end Go.Proofs.YthbdeaeghipliaaGreatDoor

set_option linter.unusedSimpArgs false
set_option linter.unusedVariables false
set_option linter.unusedSectionVars false
namespace Go.Proofs.YthbdeaeghipliaaGreatDoor
open Go.Clo

/-- The text of a verdict and the error code; l is the list that is printed. -/
noncomputable def textOf (vs : List ByteArray) (kind : Int) (l : List Int) : ByteArray × Int :=
  if codeOf vs ≠ 0 then (⟨#[]⟩, codeOf vs) else if kind < 0 ∨ 3 < kind then (⟨#[]⟩, 2) else match listOf vs l with
  | none => (⟨#[]⟩, 3)
  | some zs => (wordL.getD kind.toNat ⟨#[]⟩ ++ catS zs, 0)
def tval (p : ByteArray × Int) : Value := .tuple ⟨[.string p.1, .int .i64 p.2]⟩
theorem textOf_code {vs : List ByteArray} (h : codeOf vs ≠ 0) (kind : Int) (l : List Int) : textOf vs kind l = (⟨#[]⟩, codeOf vs) := if_pos h
theorem textOf_kind {vs : List ByteArray} (h : codeOf vs = 0) {kind : Int} (hk : kind < 0 ∨ 3 < kind) (l : List Int) : textOf vs kind l = (⟨#[]⟩, 2) := by
  unfold textOf; rw [if_neg (by simp [h]), if_pos hk]
theorem textOf_none {vs : List ByteArray} (h : codeOf vs = 0) {kind : Int} (hk : ¬ (kind < 0 ∨ 3 < kind)) {l : List Int} (hl : listOf vs l = none) : textOf vs kind l = (⟨#[]⟩, 3) := by
  unfold textOf; rw [if_neg (by simp [h]), if_neg hk, hl]
theorem textOf_some {vs : List ByteArray} (h : codeOf vs = 0) {kind : Int} (hk : ¬ (kind < 0 ∨ 3 < kind)) {l : List Int} {zs : List ByteArray} (hl : listOf vs l = some zs) : textOf vs kind l = (wordL.getD kind.toNat ⟨#[]⟩ ++ catS zs, 0) := by
  unfold textOf; rw [if_neg (by simp [h]), if_neg hk, hl]
theorem word_get {n : Nat} (h : n < 4) : (strs wordL)[n]? = some (.string (wordL.getD n ⟨#[]⟩)) := by
  match n, h with
  | 0, _ => rfl
  | 1, _ => rfl
  | 2, _ => rfl
  | 3, _ => rfl
theorem word_size {n : Nat} (h : n < 4) : (wordL.getD n ⟨#[]⟩).size ≤ 8 := by
  match n, h with
  | 0, _ => decide
  | 1, _ => decide
  | 2, _ => decide
  | 3, _ => decide

set_option maxHeartbeats 1000000 in
theorem text9 (A B : Option Addr) (vs : List ByteArray) (kind : Int) (l : List Int) (capA capB : Nat) (H : Heap) (nx : Nat) (hS : Sl H nx A (strs vs)) (hB : Sl H nx B (i64s l)) (hv : Short vs) (hlv : vs.length ≤ 1000) (hl : l.length ≤ 1000) :
    Ans Tryz.prog 21 [.slice A vs.length capA, .int .i64 kind, .slice B l.length capB] H nx fun r H' nx' => tval (textOf vs kind l) = r ∧ Ext H nx H' nx' := by
  refine spec21 ?_
  unfold F21
  refine wCall_rule (names18 A vs capA H nx hS hv (by omega)) ?_
  rintro _ _ n1 ⟨rfl, rfl, hn1⟩
  by_cases h0 : codeOf vs = 0
  · have d : decide (codeOf vs ≠ 0) = false := by simp [h0]
    by_cases hk1 : kind < 0
    · simp (disch := first | omega | assumption | exact shr_lt (by assumption) | exact ndiff32 (by assumption) | exact below_lt (by omega) | fail) only [List.getD_cons_zero, wBin_lss, wBin_gtr, wBin_neq, wIf_bool, wGuard_false, forceV_eq, decide_true, if_true, if_false, Bool.false_eq_true, wJoin_eq, d, hk1]
      exact ⟨by rw [textOf_kind h0 (.inl hk1)]; rfl, Ext.self hn1⟩
    · by_cases hk2 : 3 < kind
      · simp (disch := first | omega | assumption | exact shr_lt (by assumption) | exact ndiff32 (by assumption) | exact below_lt (by omega) | fail) only [List.getD_cons_zero, wBin_lss, wBin_gtr, wBin_neq, wIf_bool, wGuard_false, forceV_eq, decide_true, decide_false, if_true, if_false, Bool.false_eq_true, wJoin_eq, d, hk1, hk2]
        exact ⟨by rw [textOf_kind h0 (.inr hk2)]; rfl, Ext.self hn1⟩
      · have hk : ¬ (kind < 0 ∨ 3 < kind) := fun h => h.elim hk1 hk2
        have hX : Ext H nx H n1 := Ext.self hn1
        simp (disch := first | omega | assumption | exact shr_lt (by assumption) | exact ndiff32 (by assumption) | exact below_lt (by omega) | fail) only [List.getD_cons_zero, wBin_lss, wBin_gtr, wBin_neq, wIf_bool, wGuard_false, forceV_eq, decide_false, if_false, Bool.false_eq_true, wJoin_eq, d, hk1, hk2]
        refine wCall_rule (list19 A B vs l capA capB H n1 (hS.ext hX) (hB.ext hX) hv hl) ?_
        rintro r _ _ ⟨hz, hn, rfl, rfl⟩
        cases hlist : listOf vs l with
        | none =>
          have := hn hlist
          subst this
          have d3 : decide ((3 : Int) ≠ 0) = true := by decide
          simp (disch := first | omega | assumption | exact shr_lt (by assumption) | exact ndiff32 (by assumption) | exact below_lt (by omega) | fail) only [wBin_neq, wIf_bool, wExt_eq, Option.elim_some, List.getElem?_cons_zero, List.getElem?_cons_succ, if_true, d3]
          exact ⟨by rw [textOf_none h0 hk hlist]; rfl, hX⟩
        | some zs =>
          have := hz zs hlist
          subst this
          have d0 : decide ((0 : Int) ≠ 0) = false := by decide
          simp (disch := first | omega | assumption | exact shr_lt (by assumption) | exact ndiff32 (by assumption) | exact below_lt (by omega) | fail) only [wBin_neq, wIf_bool, wExt_eq, Option.elim_some, List.getElem?_cons_zero, List.getElem?_cons_succ, if_false, Bool.false_eq_true, d0]
          refine wCall_rule (words20 H n1) ?_
          rintro _ _ _ ⟨rfl, rfl, rfl⟩
          have hkn : kind.toNat < 4 := by omega
          have hk0 : 0 ≤ kind := by omega
          have hk4 : kind < ((4 : Nat) : Int) := by omega
          have hcs := catS_size zs fun y hy => hv y (listOf_mem hlist y hy)
          rw [listOf_length hlist] at hcs
          have hws := word_size hkn
          have a1 := fun k => wBin_stradd (wordL.getD kind.toNat ⟨#[]⟩) (catS zs) (by omega) k
          simp (disch := first | omega | assumption | exact shr_lt (by assumption) | exact ndiff32 (by assumption) | exact below_lt (by omega) | fail) only [wLd_none, ldP_cells, cellP_one, getH_same, Option.elim_some, Nat.zero_add, wIdx_slice, Nat.mul_one, word_get hkn, a1]
          exact ⟨by rw [textOf_some h0 hk hlist]; rfl, hX.new _ hn1 (by omega)⟩
  · have d : decide (codeOf vs ≠ 0) = true := by simp [h0]
    simp (disch := first | omega | assumption | exact shr_lt (by assumption) | exact ndiff32 (by assumption) | exact below_lt (by omega) | fail) only [wBin_lss, wBin_gtr, wBin_neq, wIf_bool, wGuard_false, forceV_eq, if_true, d]
    exact ⟨by rw [textOf_code h0]; rfl, Ext.self hn1⟩

theorem printed10 (kind : Int) (P W : Option Addr) (np pc nw wc : Nat) (H : Heap) (nx : Nat) : Ans Tryz.prog 23 [.agg ⟨[.int .i64 kind, .slice P np pc, .slice W nw wc]⟩] H nx fun r H' nx' => (if kind = 0 then .slice P np pc else .slice W nw wc) = r ∧ Ext H nx H' nx' := by
  refine spec23 ?_
  unfold F23
  have hX : ∀ b, Ext H nx (hs H nx (some b)) (nx + 1) := fun b => (Ext.refl H nx).new _ (Nat.le_refl _) (by omega)
  by_cases hk : kind = 0
  · have d : decide (kind = 0) = true := by simp [hk]
    simp (disch := first | omega | assumption | exact shr_lt (by assumption) | exact ndiff32 (by assumption) | exact below_lt (by omega) | fail) only [wBin_eql, wIf_bool, wFld_eq, wNew_eq, dBox_agg, oneCells, wLd_none, ldP_cells, cellP_one, getH_same, forceV_eq, Option.elim_some, List.getElem?_cons_zero, List.getElem?_cons_succ, Yld.val, decide_true, if_true, Nat.zero_add, Nat.add_zero, true_and, hk]
    exact hX _
  · have d : decide (kind = 0) = false := by simp [hk]
    simp (disch := first | omega | assumption | exact shr_lt (by assumption) | exact ndiff32 (by assumption) | exact below_lt (by omega) | fail) only [wBin_eql, wIf_bool, wFld_eq, wNew_eq, dBox_agg, oneCells, wLd_none, ldP_cells, cellP_one, getH_same, forceV_eq, Option.elim_some, List.getElem?_cons_zero, List.getElem?_cons_succ, Yld.val, decide_false, if_true, if_false, Bool.false_eq_true, Nat.zero_add, Nat.add_zero, true_and, hk]
    exact hX _

set_option maxHeartbeats 2000000 in
theorem verdict8 (A P W : Option Addr) (vs : List ByteArray) (kind : Int) (p w : List Int) (cap pc wc : Nat) (H : Heap) (nx : Nat) (hS : Sl H nx A (strs vs)) (hA0 : Has H nx A) (hcap : A = none → cap = 0) (hv : Short vs) (hlv : vs.length ≤ 1000)
    (hP : Sl H nx P (i64s p)) (hW : Sl H nx W (i64s w)) (hp : p.length ≤ 1000) (hw : w.length ≤ 1000) :
    Ans Tryz.prog 14 [.slice A vs.length cap, .agg ⟨[.int .i64 kind, .slice P p.length pc, .slice W w.length wc]⟩] H nx fun r H' nx' => tval (textOf vs kind (if kind = 0 then p else w)) = r ∧ Ext H nx H' nx' := by
  refine spec14 ?_
  unfold F14
  have hX : Ext H nx (hs H nx (some (.cells [.int .i64 kind, .slice P p.length pc, .slice W w.length wc] 0))) (nx + 1) := (Ext.refl H nx).new _ (Nat.le_refl _) (by omega)
  simp (disch := first | omega | assumption | exact shr_lt (by assumption) | exact ndiff32 (by assumption) | exact below_lt (by omega) | fail) only [wFld_eq, wNew_eq, dBox_agg, oneCells, wLd_none, forceV_eq, Yld.val, if_true, Nat.zero_add, Nat.add_zero]
  refine wCall_rule (checked14 A vs cap _ (nx + 1) (hS.ext hX) (hA0.ext hX) hcap hv hlv) ?_
  rintro _ H2 n2 ⟨rfl, hE2⟩
  have hn2 := hE2.le
  by_cases h0 : codeOf vs = 0
  · have d : decide (codeOf vs ≠ 0) = false := by simp [h0]
    simp (disch := first | omega | assumption | exact shr_lt (by assumption) | exact ndiff32 (by assumption) | exact below_lt (by omega) | fail) only [wBin_neq, wIf_bool, if_false, Bool.false_eq_true, d]
    refine wCall_rule (words15 H2 n2) ?_
    rintro _ _ _ ⟨rfl, rfl, rfl⟩
    have hE3 : Ext H2 n2 (hs H2 n2 (some (.cells (strs wordL) 0))) (n2 + 1) := (Ext.refl _ _).new _ (Nat.le_refl _) (by omega)
    have hE03 := hX.trans (hE2.trans hE3)
    have hg : getH (hs H2 n2 (some (.cells (strs wordL) 0))) nx = some (.cells [.int .i64 kind, .slice P p.length pc, .slice W w.length wc] 0) := by
      rw [hE3.get nx (by omega), hE2.get nx (by omega), getH_same]
    have hgw : getH (hs H2 n2 (some (.cells (strs wordL) 0))) n2 = some (.cells (strs wordL) 0) := getH_same _ _ _
    generalize hs H2 n2 (some (.cells (strs wordL) 0)) = H3 at hE3 hE03 hg hgw ⊢
    by_cases hk1 : kind < 0
    · simp (disch := first | omega | assumption | exact shr_lt (by assumption) | exact ndiff32 (by assumption) | exact below_lt (by omega) | fail) only [List.getD_cons_zero, wBin_lss, wBin_geq, wBin_eql, wIf_bool, wGuard_false, wLen_slice, ldP_cells, cellP_one, Option.elim_some, List.getElem?_cons_zero, List.getElem?_cons_succ, decide_true, if_true, wJoin_eq, hg, hk1]
      exact ⟨by rw [textOf_kind h0 (.inl hk1)]; rfl, hE03⟩
    · by_cases hk2 : 3 < kind
      · have hk2' : ((4 : Nat) : Int) ≤ kind := by omega
        simp (disch := first | omega | assumption | exact shr_lt (by assumption) | exact ndiff32 (by assumption) | exact below_lt (by omega) | fail) only [List.getD_cons_zero, wBin_lss, wBin_geq, wBin_eql, wIf_bool, wGuard_false, wLen_slice, ldP_cells, cellP_one, Option.elim_some, List.getElem?_cons_zero, List.getElem?_cons_succ, decide_true, decide_false, if_true, if_false, Bool.false_eq_true, wJoin_eq, hg, hk1, hk2']
        exact ⟨by rw [textOf_kind h0 (.inr hk2)]; rfl, hE03⟩
      · have hk2' : ¬ ((4 : Nat) : Int) ≤ kind := by omega
        have hk : ¬ (kind < 0 ∨ 3 < kind) := fun h => h.elim hk1 hk2
        refine wJoin_rule (fun L H' nx' => L = [.bool false] ∧ H3 = H' ∧ n2 + 1 = nx') ?_ ?_
        · intro j hj
          simp (disch := first | omega | assumption | exact shr_lt (by assumption) | exact ndiff32 (by assumption) | exact below_lt (by omega) | fail) only [wBin_lss, wBin_geq, wGuard_false, wLen_slice, ldP_cells, cellP_one, Option.elim_some, List.getElem?_cons_zero, decide_false, if_false, Bool.false_eq_true, hg, hk1, hk2']
          exact hj _ _ _ ⟨rfl, rfl, rfl⟩
        rintro _ _ _ ⟨rfl, rfl, rfl⟩
        obtain ⟨L, B, bc, hL, hBs, hBl⟩ : ∃ (L : List Int) (B : Option Addr) (bc : Nat), (if kind = 0 then p else w) = L ∧ (if kind = 0 then Value.slice P p.length pc else .slice W w.length wc) = .slice B L.length bc ∧ Sl H nx B (i64s L) ∧ L.length ≤ 1000 := by
          by_cases hk0 : kind = 0
          · exact ⟨p, P, pc, if_pos hk0, if_pos hk0, hP, hp⟩
          · exact ⟨w, W, wc, if_neg hk0, if_neg hk0, hW, hw⟩
        rw [hL]
        simp (disch := first | omega | assumption | exact shr_lt (by assumption) | exact ndiff32 (by assumption) | exact below_lt (by omega) | fail) only [List.getD_cons_zero, wBin_eql, wIf_bool, ldP_cells, cellP_one, Option.elim_some, List.getElem?_cons_zero, List.getElem?_cons_succ, if_false, Bool.false_eq_true, hg]
        refine wJoin_rule (fun L' H' nx' => L' = [.slice B L.length bc] ∧ H3 = H' ∧ n2 + 1 = nx') ?_ ?_
        · intro j hj
          by_cases hk0 : kind = 0
          · have d0 : decide (kind = 0) = true := by simp [hk0]
            rw [if_pos hk0] at hBs
            simp (disch := first | omega | assumption | exact shr_lt (by assumption) | exact ndiff32 (by assumption) | exact below_lt (by omega) | fail) only [if_true, d0, hBs]
            exact hj _ _ _ ⟨rfl, rfl, rfl⟩
          · have d0 : decide (kind = 0) = false := by simp [hk0]
            rw [if_neg hk0] at hBs
            simp (disch := first | omega | assumption | exact shr_lt (by assumption) | exact ndiff32 (by assumption) | exact below_lt (by omega) | fail) only [if_false, Bool.false_eq_true, d0, hBs]
            exact hj _ _ _ ⟨rfl, rfl, rfl⟩
        rintro _ _ _ ⟨rfl, rfl, rfl⟩
        simp (disch := first | omega | assumption | exact shr_lt (by assumption) | exact ndiff32 (by assumption) | exact below_lt (by omega) | fail) only [List.getD_cons_zero]
        refine wCall_rule (named16 A B vs L cap bc H3 (n2 + 1) (hS.ext hE03) (hBl.1.ext hE03) (by omega)) ?_
        rintro r H6 n6 ⟨hz, hn, hE6⟩
        cases hlist : listOf vs L with
        | none =>
          have := hn hlist
          subst this
          have d3 : decide ((3 : Int) ≠ 0) = true := by decide
          simp (disch := first | omega | assumption | exact shr_lt (by assumption) | exact ndiff32 (by assumption) | exact below_lt (by omega) | fail) only [wBin_neq, wIf_bool, wExt_eq, Option.elim_some, List.getElem?_cons_zero, List.getElem?_cons_succ, if_true, d3]
          exact ⟨by rw [textOf_none h0 hk hlist]; rfl, hE03.trans hE6⟩
        | some zs =>
          obtain ⟨v, rfl, hacc⟩ := hz zs hlist
          have d0 : decide ((0 : Int) ≠ 0) = false := by decide
          have hkn : kind.toNat < 4 := by omega
          have hk0 : 0 ≤ kind := by omega
          have hk4 : kind < ((4 : Nat) : Int) := by omega
          have hg6 : getH H6 nx = some (.cells [.int .i64 kind, .slice P p.length pc, .slice W w.length wc] 0) := by rw [hE6.get nx (by omega), hg]
          have hgw6 : getH H6 n2 = some (.cells (strs wordL) 0) := by rw [hE6.get n2 (by omega), hgw]
          simp (disch := first | omega | assumption | exact shr_lt (by assumption) | exact ndiff32 (by assumption) | exact below_lt (by omega) | fail) only [wBin_neq, wIf_bool, wExt_eq, wLd_none, ldP_cells, cellP_one, Option.elim_some, List.getElem?_cons_zero, List.getElem?_cons_succ, if_false, Bool.false_eq_true, Nat.zero_add, wIdx_slice, Nat.mul_one, d0, hg6, hgw6, word_get hkn]
          refine wCall_rule (joined17 _ _ v zs H6 n6 hacc (fun z hz => hv z (listOf_mem hlist z hz)) (by have := word_size hkn; omega) (by rw [listOf_length hlist]; omega)) ?_
          rintro _ H7 n7 ⟨rfl, hE7⟩
          exact ⟨by rw [textOf_some h0 hk hlist]; rfl, hE03.trans (hE6.trans hE7)⟩
  · have d : decide (codeOf vs ≠ 0) = true := by simp [h0]
    simp (disch := first | omega | assumption | exact shr_lt (by assumption) | exact ndiff32 (by assumption) | exact below_lt (by omega) | fail) only [wBin_neq, wIf_bool, if_true, d]
    exact ⟨by rw [textOf_code h0]; rfl, hX.trans hE2⟩

set_option maxHeartbeats 1000000 in
theorem great6 (A P W : Option Addr) (vs : List ByteArray) (kind : Int) (cap np pc nw wc : Nat) (H : Heap) (nx : Nat) (hS : Sl H nx A (strs vs)) (h1 : vs.length < 4611686018427387904) (h2 : np < 2305843009213693952) (h3 : nw < 2305843009213693952) :
    Ans Tryz.prog 6 [.slice A vs.length cap, .agg ⟨[.int .i64 kind, .slice P np pc, .slice W nw wc]⟩] H nx fun r H' nx' => (∃ c : Bool, r = .bool c ∧ (c = false → Short vs ∧ vs.length ≤ 20 ∧ np + nw ≤ 40)) ∧ Ext H nx H' nx' := by
  refine spec6 ?_
  unfold F6
  have hX : Ext H nx (hs H nx (some (.cells [.int .i64 kind, .slice P np pc, .slice W nw wc] 0))) (nx + 1) := (Ext.refl H nx).new _ (Nat.le_refl _) (by omega)
  have hg : getH (hs H nx (some (.cells [.int .i64 kind, .slice P np pc, .slice W nw wc] 0))) nx = some (.cells [.int .i64 kind, .slice P np pc, .slice W nw wc] 0) := getH_same _ _ _
  simp (disch := first | omega | assumption | exact shr_lt (by assumption) | exact ndiff32 (by assumption) | exact below_lt (by omega) | fail) only [wBin_gtr, wGuard_false, wFld_eq, wLen_slice, wNew_eq, dBox_agg, oneCells, wLd_none, forceV_eq, Yld.val, if_true, Nat.zero_add]
  generalize hs H nx (some (.cells [.int .i64 kind, .slice P np pc, .slice W nw wc] 0)) = H1 at hX hg ⊢
  refine wLoop_rule (fun m L H' nx' => ∃ i : Nat, m + i = vs.length ∧ L = [.int .i64 (i : Int)] ∧ (∀ (j : Nat) (s : ByteArray), j < i → vs[j]? = some s → s.size ≤ 60) ∧ H1 = H' ∧ nx + 1 = nx') ?_ (m := vs.length) ⟨0, by omega, rfl, fun j s hj => by omega, rfl, rfl⟩
  rintro m ih L _ _ ⟨i, hm, rfl, hst, rfl, rfl⟩ hih
  simp (disch := first | omega | assumption | exact shr_lt (by assumption) | exact ndiff32 (by assumption) | exact below_lt (by omega) | fail) only [List.getD_cons_zero, wBin_lss, wIf_bool, wBin_add64]
  by_cases hi : i < vs.length
  · have hi' : (i : Int) < (vs.length : Int) := by omega
    obtain ⟨b, o, row, rfl, hb, hrow, hget⟩ := (hS.ext hX).open (i := i) (by rw [strs_length]; exact hi)
    have hv0 : vs[i]? = some vs[i] := List.getElem?_eq_getElem hi
    generalize vs[i] = s at hv0
    by_cases hs60 : 60 < s.size
    · have d : (60 : Int) < (s.size : Int) := by omega
      simp (disch := first | omega | assumption | exact shr_lt (by assumption) | exact ndiff32 (by assumption) | exact below_lt (by omega) | fail) only [wBin_gtr, wIf_bool, wLen_string, wLd_none, cellP_one, Option.elim_some, decide_true, if_true, wIdx_slice, Int.toNat_natCast, Nat.mul_one, hi', ldP_row hrow, hget _ _ (strs_get hv0), d]
      exact ⟨⟨true, rfl, fun h => by cases h⟩, hX⟩
    · have d : ¬ (60 : Int) < (s.size : Int) := by omega
      simp (disch := first | omega | assumption | exact shr_lt (by assumption) | exact ndiff32 (by assumption) | exact below_lt (by omega) | fail) only [wBin_gtr, wIf_bool, wLen_string, wLd_none, cellP_one, Option.elim_some, decide_true, decide_false, if_true, if_false, Bool.false_eq_true, wIdx_slice, Int.toNat_natCast, Nat.mul_one, hi', ldP_row hrow, hget _ _ (strs_get hv0), d]
      exact hih (m - 1) _ _ _ (by omega) ⟨i + 1, by omega, by simp, fun j t hj ht => by
        by_cases hji : j = i
        · subst hji; rw [hv0] at ht; cases ht; omega
        · exact hst j t (by omega) ht, rfl, rfl⟩
  · have hi' : ¬ (i : Int) < (vs.length : Int) := by omega
    have hsh : Short vs := fun s hs => by
      obtain ⟨j, hj⟩ := List.mem_iff_getElem?.1 hs
      exact hst j s (by have := (List.getElem?_eq_some_iff.1 hj).1; omega) hj
    by_cases h20 : 20 < vs.length
    · have d : (20 : Int) < (vs.length : Int) := by omega
      simp (disch := first | omega | assumption | exact shr_lt (by assumption) | exact ndiff32 (by assumption) | exact below_lt (by omega) | fail) only [decide_true, decide_false, if_true, if_false, Bool.false_eq_true, hi', d]
      exact ⟨⟨true, rfl, fun h => by cases h⟩, hX⟩
    · have d : ¬ (20 : Int) < (vs.length : Int) := by omega
      simp (disch := first | omega | assumption | exact shr_lt (by assumption) | exact ndiff32 (by assumption) | exact below_lt (by omega) | fail) only [wBin_gtr, wLen_slice, ldP_cells, cellP_one, Option.elim_some, List.getElem?_cons_zero, List.getElem?_cons_succ, decide_false, if_false, Bool.false_eq_true, wBin_add64, hi', d, hg]
      exact ⟨⟨_, rfl, fun h => ⟨hsh, by omega, by simp at h; omega⟩⟩, hX⟩
end Go.Proofs.YthbdeaeghipliaaGreatDoor

set_option linter.unusedSimpArgs false
set_option linter.unusedVariables false
set_option linter.unusedSectionVars false
namespace Go.Proofs.YthbdeaeghipliaaGreatDoor
open Go.Clo

def nul : ByteArray := ⟨#[]⟩
def reserved : List ByteArray := [⟨#[99, 111, 117, 110, 116]⟩, ⟨#[100, 101, 115, 99]⟩, ⟨#[109, 97, 120]⟩, ⟨#[109, 105, 110]⟩, ⟨#[110, 111, 116]⟩, ⟨#[111, 114, 100, 101, 114]⟩, ⟨#[115, 117, 109]⟩]
open Classical in
noncomputable def nameV (s : ByteArray) : Bool := !decide (s ∈ reserved) && decide (NameOK s)
def valueV (kind int : Int) (s : ByteArray) : Bool := if kind = 1 then decide (s = nul) else if kind = 2 then decide (int = 0) && decide (s.size ≤ 24) else false
/-- The first one that is not 0. -/
def firstC : List Int → Int
  | [] => 0
  | c :: r => if c ≠ 0 then c else firstC r
noncomputable def termCode (t : TermR) : Int :=
  if t.var = nul then (if valueV t.kind t.int t.str = true then 0 else 4)
  else if nameV t.var = true then (if t.kind = 0 ∧ t.int = 0 ∧ t.str = nul then 0 else 1) else 7
noncomputable def atomCode (a : AtomR) : Int :=
  if nameV a.rel = true then (if 6 < a.terms.length then 12 else firstC (a.terms.map termCode)) else 7
noncomputable def condCode (c : CondR) : Int :=
  if nameV c.var = true then (if c.op < 0 ∨ 5 < c.op then 2 else if valueV c.kind c.int c.str = true then 0 else 4) else 7
noncomputable def itemsCode (r : RuleR) : Int :=
  if r.atoms.length = 0 then 10 else if 8 < r.atoms.length ∨ 8 < r.conds.length then 12
  else if firstC (r.atoms.map atomCode) ≠ 0 then firstC (r.atoms.map atomCode) else firstC (r.conds.map condCode)
open Classical in
noncomputable def addV (acc : List ByteArray) (v : ByteArray) : List ByteArray := if v = nul ∨ v ∈ acc then acc else acc ++ [v]
def termVars (r : RuleR) : List ByteArray := r.atoms.flatMap fun a => a.terms.map TermR.var
open Classical in
noncomputable def varsOf (r : RuleR) : List ByteArray := (termVars r ++ r.conds.map CondR.var).foldl addV []
def posA (a : AtomR) : List ByteArray := if a.neg then [] else (a.terms.map TermR.var).filter fun v => decide (v ≠ nul)
open Classical in
noncomputable def posOf (r : RuleR) : List ByteArray := r.atoms.flatMap posA
open Classical in
noncomputable def ruleCode (needed : List ByteArray) (r : RuleR) : Int :=
  if itemsCode r ≠ 0 then itemsCode r else if 8 < (varsOf r).length then 12
  else if (needed ++ varsOf r).all (fun v => decide (v ∈ posOf r)) = true then 0 else 22
open Classical in
noncomputable def headC : List ByteArray → List ByteArray → Int
  | _, [] => 0
  | seen, v :: r => if nameV v = true then (if v ∈ seen then 8 else headC (seen ++ [v]) r) else 7
noncomputable def headCode (l : List ByteArray) : Int := if 6 < l.length then 12 else headC [] l
noncomputable def aggCode (agg : Int) (v : ByteArray) : Int :=
  if agg = 0 ∨ agg = 1 then (if v = nul then 0 else 1) else if agg = 2 ∨ agg = 3 ∨ agg = 4 then (if nameV v = true then 0 else 7) else 2
open Classical in
noncomputable def orderC (head : List ByteArray) : List ByteArray → List ByteArray → Int
  | _, [] => 0
  | seen, v :: r => if v ∈ head then (if v ∈ seen then 8 else orderC head (seen ++ [v]) r) else 7
def neededOf (q : QueryR) : List ByteArray := q.head ++ (if q.aggvar = nul then [] else [q.aggvar])
open Classical in
noncomputable def qcode (q : QueryR) : Int :=
  if q.rules.length = 0 then 10 else if 3 < q.rules.length ∨ (1 < q.rules.length ∧ q.agg ≠ 0) then 12
  else if headCode q.head ≠ 0 then headCode q.head
  else if aggCode q.agg q.aggvar ≠ 0 then aggCode q.agg q.aggvar
  else if firstC (q.rules.map (ruleCode (neededOf q))) ≠ 0 then firstC (q.rules.map (ruleCode (neededOf q)))
  else orderC q.head [] (q.order.map KeyR.var)
open Classical in
/-- The complete order. -/
noncomputable def ordL (q : QueryR) : List ByteArray := q.order.map KeyR.var ++ q.head.filter fun v => decide (v ∉ q.order.map KeyR.var)

/-! Facts. -/
theorem firstC_skip {c : Int} {l : List Int} (h : c = 0) : firstC (c :: l) = firstC l := by rw [firstC, if_neg (by simp [h])]
theorem firstC_stop {c : Int} {l : List Int} (h : c ≠ 0) : firstC (c :: l) = c := by rw [firstC, if_pos h]
theorem firstC_take {α : Type} {f : α → Int} : ∀ {l : List α} {i : Nat}, (∀ j a, j < i → l[j]? = some a → f a = 0) → firstC (l.map f) = firstC ((l.drop i).map f)
  | [], i, _ => by simp
  | a :: l, 0, _ => rfl
  | a :: l, i + 1, h => by
    rw [List.map_cons, firstC_skip (h 0 a (by omega) rfl), List.drop_succ_cons]
    exact firstC_take fun j b hj hb => h (j + 1) b (by omega) (by simpa using hb)
theorem firstC_at {α : Type} {f : α → Int} {l : List α} {i : Nat} {a : α} (h : ∀ j b, j < i → l[j]? = some b → f b = 0) (ha : l[i]? = some a) (hf : f a ≠ 0) : firstC (l.map f) = f a := by
  rw [firstC_take h]
  obtain ⟨hi, rfl⟩ := List.getElem?_eq_some_iff.1 ha
  rw [List.drop_eq_getElem_cons hi, List.map_cons, firstC_stop hf]
theorem firstC_all {α : Type} {f : α → Int} {l : List α} (h : ∀ (j : Nat) (b : α), l[j]? = some b → f b = 0) : firstC (l.map f) = 0 := by
  rw [firstC_take (i := l.length) fun j b _ hb => h j b hb]; simp [firstC]
theorem firstC_zero {α : Type} {f : α → Int} : ∀ {l : List α}, firstC (l.map f) = 0 → ∀ a ∈ l, f a = 0
  | [], _, a, ha => by cases ha
  | b :: l, h, a, ha => by
    by_cases hb : f b = 0
    · rw [List.map_cons, firstC_skip hb] at h
      rcases List.mem_cons.1 ha with rfl | ha
      · exact hb
      · exact firstC_zero h a ha
    · rw [List.map_cons, firstC_stop hb] at h
      exact absurd h hb
open Classical in
theorem addV_mem {v : ByteArray} (hv : v ≠ nul) (acc : List ByteArray) (w : ByteArray) : v ∈ addV acc w ↔ v ∈ acc ∨ v = w := by
  by_cases h : w = nul ∨ w ∈ acc
  · rw [addV, if_pos h]
    constructor
    · exact .inl
    · rintro (h2 | rfl)
      · exact h2
      · exact h.resolve_left hv
  · rw [addV, if_neg h]; simp
theorem foldl_addV_mem {v : ByteArray} (hv : v ≠ nul) : ∀ (l acc : List ByteArray), v ∈ l.foldl addV acc ↔ v ∈ acc ∨ v ∈ l
  | [], acc => by simp
  | w :: l, acc => by
    rw [List.foldl_cons, foldl_addV_mem hv l, addV_mem hv, List.mem_cons, or_assoc]
open Classical in
theorem foldl_addV_nul : ∀ (l acc : List ByteArray), nul ∉ acc → nul ∉ l.foldl addV acc
  | [], acc, h => h
  | w :: l, acc, h => by
    rw [List.foldl_cons]
    refine foldl_addV_nul l _ ?_
    by_cases hw : w = nul ∨ w ∈ acc
    · rw [addV, if_pos hw]; exact h
    · rw [addV, if_neg hw]
      simp only [List.mem_append, List.mem_singleton, not_or]
      exact ⟨h, fun e => hw (.inl e.symm)⟩
theorem varsOf_mem {r : RuleR} {v : ByteArray} (h : v ∈ varsOf r) : v ≠ nul ∧ (v ∈ termVars r ∨ v ∈ r.conds.map CondR.var) := by
  have hv : v ≠ nul := fun e => by subst e; exact foldl_addV_nul _ [] (by simp) h
  refine ⟨hv, ?_⟩
  have := (foldl_addV_mem hv _ _).1 h
  simpa using this
theorem nameV_size {s : ByteArray} (h : nameV s = true) : 1 ≤ s.size ∧ s.size ≤ 16 := by
  unfold nameV at h
  simp only [Bool.and_eq_true, decide_eq_true_eq] at h
  exact ⟨h.2.1, h.2.2.1⟩
theorem items_vars {r : RuleR} (h : itemsCode r = 0) : ∀ v ∈ varsOf r, nameV v = true := by
  intro v hv
  obtain ⟨hn, hv⟩ := varsOf_mem hv
  unfold itemsCode at h
  split at h
  · cases h
  split at h
  · cases h
  split at h
  · rename_i h1; exact absurd h h1
  rename_i h1
  have h1 : firstC (r.atoms.map atomCode) = 0 := by simpa using h1
  rcases hv with hv | hv
  · obtain ⟨a, ha, hv⟩ := List.mem_flatMap.1 hv
    obtain ⟨t, ht, rfl⟩ := List.mem_map.1 hv
    have h2 := firstC_zero h1 a ha
    unfold atomCode at h2
    split at h2
    · split at h2
      · cases h2
      · have h3 := firstC_zero h2 t ht
        unfold termCode at h3
        rw [if_neg hn] at h3
        split at h3
        · assumption
        · cases h3
    · cases h2
  · obtain ⟨c, hc, rfl⟩ := List.mem_map.1 hv
    have h3 := firstC_zero h c hc
    unfold condCode at h3
    split at h3
    · assumption
    · cases h3
theorem headC_facts : ∀ {l seen : List ByteArray}, headC seen l = 0 → (∀ v ∈ l, nameV v = true ∧ v ∉ seen) ∧ l.Nodup
  | [], seen, _ => by simp
  | v :: r, seen, h => by
    rw [headC] at h
    split at h
    · rename_i hv
      split at h
      · cases h
      · rename_i hs
        obtain ⟨h1, h2⟩ := headC_facts h
        refine ⟨fun w hw => ?_, List.nodup_cons.2 ⟨fun hm => ?_, h2⟩⟩
        · rcases List.mem_cons.1 hw with rfl | hw
          · exact ⟨hv, hs⟩
          · have := h1 w hw
            exact ⟨this.1, fun hm => this.2 (List.mem_append_left _ hm)⟩
        · exact (h1 v hm).2 (List.mem_append_right _ (List.mem_singleton.2 rfl))
    · cases h
theorem orderC_facts {head : List ByteArray} : ∀ {l seen : List ByteArray}, orderC head seen l = 0 → (∀ v ∈ l, v ∈ head ∧ v ∉ seen) ∧ l.Nodup
  | [], seen, _ => by simp
  | v :: r, seen, h => by
    rw [orderC] at h
    split at h
    · rename_i hv
      split at h
      · cases h
      · rename_i hs
        obtain ⟨h1, h2⟩ := orderC_facts h
        refine ⟨fun w hw => ?_, List.nodup_cons.2 ⟨fun hm => ?_, h2⟩⟩
        · rcases List.mem_cons.1 hw with rfl | hw
          · exact ⟨hv, hs⟩
          · have := h1 w hw
            exact ⟨this.1, fun hm => this.2 (List.mem_append_left _ hm)⟩
        · exact (h1 v hm).2 (List.mem_append_right _ (List.mem_singleton.2 rfl))
    · cases h
/-- What a query without an error keeps. -/
structure QFacts (q : QueryR) : Prop where
  rules : 1 ≤ q.rules.length ∧ q.rules.length ≤ 3
  head : q.head.length ≤ 6
  names : ∀ v ∈ q.head, nameV v = true
  order : ∀ k ∈ q.order, k.var ∈ q.head
  ordnd : (q.order.map KeyR.var).Nodup
  ordlen : q.order.length ≤ 6
  vars : ∀ r ∈ q.rules, (varsOf r).length ≤ 8 ∧ ∀ v ∈ varsOf r, nameV v = true
theorem qcode_facts {q : QueryR} (h : qcode q = 0) : QFacts q := by
  unfold qcode at h
  split at h
  · cases h
  rename_i a1
  split at h
  · cases h
  rename_i a2
  split at h
  · rename_i a3; exact absurd h a3
  rename_i a3
  split at h
  · rename_i a4; exact absurd h a4
  split at h
  · rename_i a5; exact absurd h a5
  rename_i a5
  have a3 : headCode q.head = 0 := by simpa using a3
  have a5 : firstC (q.rules.map (ruleCode (neededOf q))) = 0 := by simpa using a5
  unfold headCode at a3
  split at a3
  · cases a3
  rename_i a6
  obtain ⟨b1, b2⟩ := headC_facts a3
  obtain ⟨c1, c2⟩ := orderC_facts h
  have hsub := List.Nodup.length_le_of_subset c2 fun v hv => (c1 v hv).1
  refine ⟨by omega, by omega, fun v hv => (b1 v hv).1, fun k hk => (c1 _ (List.mem_map.2 ⟨k, hk, rfl⟩)).1, c2, by rw [List.length_map] at hsub; omega, fun r hr => ?_⟩
  have h2 := firstC_zero a5 r hr
  unfold ruleCode at h2
  split at h2
  · rename_i h3; exact absurd h2 h3
  rename_i h3
  split at h2
  · cases h2
  exact ⟨by omega, items_vars (by simpa using h3)⟩
end Go.Proofs.YthbdeaeghipliaaGreatDoor

set_option linter.unusedSimpArgs false
set_option linter.unusedVariables false
set_option linter.unusedSectionVars false
namespace Go.Proofs.YthbdeaeghipliaaGreatDoor
open Go.Clo

def mkB (l : List UInt8) : ByteArray := ⟨l.toArray⟩
theorem mkB_data (l : List UInt8) : (mkB l).data.toList = l := by simp [mkB]
theorem mkB_of (s : ByteArray) : mkB s.data.toList = s := by cases s; simp [mkB]
theorem mkB_size (l : List UInt8) : (mkB l).size = l.length := by simp [mkB, ByteArray.size]
theorem data_size (s : ByteArray) : s.data.toList.length = s.size := by rw [Array.length_toList]; rfl
theorem extract_mk (s : ByteArray) (a b : Nat) : s.extract a b = mkB ((s.data.toList.drop a).take (b - a)) := by
  apply bytes_eq
  rw [ByteArray.toList_eq, ByteArray.toList_eq, mkB_data, ByteArray.data_extract, Array.toList_extract]

/-- The parts between the blanks. -/
def splitL : List UInt8 → List (List UInt8)
  | [] => [[]]
  | c :: r => if c = 32 then [] :: splitL r else match splitL r with
    | [] => [[c]]
    | h :: t => (c :: h) :: t
theorem splitL_at {post : List UInt8} : ∀ {pre : List UInt8}, (∀ c ∈ pre, c ≠ 32) → splitL (pre ++ 32 :: post) = pre :: splitL post
  | [], _ => by simp [splitL]
  | c :: r, h => by
    rw [List.cons_append, splitL, if_neg (h c (by simp)), splitL_at (pre := r) (fun x hx => h x (List.mem_cons_of_mem _ hx))]
theorem splitL_last : ∀ {l : List UInt8}, (∀ c ∈ l, c ≠ 32) → splitL l = [l]
  | [], _ => rfl
  | c :: r, h => by rw [splitL, if_neg (h c (by simp)), splitL_last (l := r) (fun x hx => h x (List.mem_cons_of_mem _ hx))]
theorem splitL_length : ∀ l : List UInt8, (splitL l).length = l.count 32 + 1
  | [] => rfl
  | c :: r => by
    rw [splitL]
    by_cases h : c = 32
    · rw [if_pos h, List.length_cons, splitL_length r, h, List.count_cons_self]
    · rw [if_neg h, List.count_cons_of_ne h]
      have := splitL_length r
      cases hr : splitL r with
      | nil => rw [hr] at this; simp at this
      | cons x t => rw [hr] at this; simpa using this
def splitS (s : ByteArray) : List ByteArray := (splitL s.data.toList).map mkB
theorem splitS_length (s : ByteArray) : (splitS s).length = s.data.toList.count 32 + 1 := by rw [splitS, List.length_map, splitL_length]
theorem splitS_pos (s : ByteArray) : 0 < (splitS s).length := by rw [splitS_length]; omega

theorem wVf_cut {s : ByteArray} {a b : Nat} (ha : a ≤ b) (hb : b ≤ s.size) (k : VP) : wVf (.ssl true true) [.string s, .int .i64 (a : Int), .int .i64 (b : Int)] k = k (.string (s.extract a b)) := by
  have e : VF.ev (.ssl true true) [.string s, .int .i64 (a : Int), .int .i64 (b : Int)] = some (.string (s.extract a b)) := by
    show sslV s (some (.int .i64 (a : Int))) (some (.int .i64 (b : Int))) = _
    simp only [sslV, boundA_nat hb, boundA_nat ha]
  unfold wVf
  rw [e, optK_eq]; rfl
theorem wVf_drop {s : ByteArray} {a : Nat} (ha : a ≤ s.size) (k : VP) : wVf (.ssl true false) [.string s, .int .i64 (a : Int)] k = k (.string (s.extract a s.size)) := by
  have e : VF.ev (.ssl true false) [.string s, .int .i64 (a : Int)] = some (.string (s.extract a s.size)) := by
    show sslV s (some (.int .i64 (a : Int))) none = _
    simp only [sslV, boundA_nat ha]
  unfold wVf
  rw [e, optK_eq]; rfl
theorem wVf_min {x y : Int} (h : x ≤ y) (k : VP) : wVf (.mm false) [.int .i64 x, .int .i64 y] k = k (.int .i64 x) := by
  have e : VF.ev (.mm false) [.int .i64 x, .int .i64 y] = some (.int .i64 x) := by
    show some (Value.int .i64 (if y < x then y else x)) = _
    rw [if_neg (by omega)]
  unfold wVf
  rw [e, optK_eq]; rfl
theorem dMsl_strs {n : Nat} (h : n ≤ 1000000) (z : ByteArray) (k : List Value → Nat → Nat → Prop) : dMsl (.int .i64 (n : Int)) (.int .i64 (n : Int)) [.string z] k = k (strs (List.replicate n z)) n n := by
  show (cond (Nat.ble n n && Nat.ble n 1000000) (Go.Clo.spine (repeatA [.string z] n) fun cs => k cs n n) False) = _
  rw [bltrue (Nat.le_refl n), bltrue h, repeatA_strs]
  exact spine_eq _ _

theorem cut_none {l : List UInt8} {f i : Nat} (hf : f ≤ i) (h : ∀ (j : Nat) (c : UInt8), f ≤ j → j < i → l[j]? = some c → c ≠ 32) : ∀ c ∈ (l.drop f).take (i - f), c ≠ 32 := fun c hc => by
  obtain ⟨j, hj⟩ := List.mem_iff_getElem?.1 hc
  rw [List.getElem?_take] at hj
  split at hj
  · rw [List.getElem?_drop] at hj
    exact h (f + j) c (by omega) (by omega) hj
  · cases hj
theorem drop_at {l : List UInt8} {f i : Nat} (hf : f ≤ i) {c : UInt8} (hc : l[i]? = some c) : l.drop f = (l.drop f).take (i - f) ++ c :: l.drop (i + 1) := by
  have h1 : l.drop i = c :: l.drop (i + 1) := by
    obtain ⟨h, rfl⟩ := List.getElem?_eq_some_iff.1 hc
    exact List.drop_eq_getElem_cons h
  rw [← h1]
  have h2 : l.drop i = (l.drop f).drop (i - f) := by rw [List.drop_drop]; congr 1; omega
  rw [h2, List.take_append_drop]
end Go.Proofs.YthbdeaeghipliaaGreatDoor

set_option linter.unusedSimpArgs false
set_option linter.unusedVariables false
set_option linter.unusedSectionVars false
namespace Go.Proofs.YthbdeaeghipliaaGreatDoor
open Go.Clo

/-- The first index of a string, or -1. -/
def idxOf (l : List ByteArray) (s : ByteArray) : Int := if l.findIdx (fun t => decide (t = s)) < l.length then (l.findIdx (fun t => decide (t = s)) : Nat) else -1
theorem idxOf_yes {l : List ByteArray} {s : ByteArray} (h : s ∈ l) : idxOf l s = (l.findIdx (fun t => decide (t = s)) : Nat) := if_pos (List.findIdx_lt_length.2 ⟨s, h, by simp⟩)
theorem idxOf_not {l : List ByteArray} {s : ByteArray} (h : s ∉ l) : idxOf l s = -1 := if_neg fun h' => by
  obtain ⟨x, h1, h2⟩ := List.findIdx_lt_length.1 h'
  simp at h2
  exact h (h2 ▸ h1)
theorem idxOf_at {l : List ByteArray} {s : ByteArray} {i : Nat} (h : l[i]? = some s) (hno : ∀ (j : Nat) (t : ByteArray), j < i → l[j]? = some t → t ≠ s) : idxOf l s = i := by
  obtain ⟨hi, e⟩ := List.getElem?_eq_some_iff.1 h
  rw [idxOf_yes (List.mem_of_getElem? h)]
  congr 1
  rw [List.findIdx_eq hi]
  refine ⟨by simp [e], fun j hj => ?_⟩
  have := hno j _ hj (List.getElem?_eq_getElem (by omega))
  simpa using this
theorem idxOf_none {l : List ByteArray} {s : ByteArray} (hno : ∀ (j : Nat) (t : ByteArray), l[j]? = some t → t ≠ s) : idxOf l s = -1 := by
  refine idxOf_not fun h => ?_
  obtain ⟨j, hj⟩ := List.mem_iff_getElem?.1 h
  exact hno j s hj rfl
theorem index22 (A : Option Addr) (l : List ByteArray) (s : ByteArray) (cap : Nat) (H : Heap) (nx : Nat) (hS : Sl H nx A (strs l)) (hl : l.length ≤ 1000000) : Ans Tryz.prog 38 [.slice A l.length cap, .string s] H nx fun r H' nx' => .int .i64 (idxOf l s) = r ∧ H = H' ∧ nx = nx' := by
  refine spec38 ?_
  unfold F38
  simp (disch := first | omega | assumption | exact shr_lt (by assumption) | exact ndiff32 (by assumption) | exact below_lt (by omega) | fail) only [wLen_slice, forceV_eq]
  refine wLoop_rule (fun m L H' nx' => ∃ i : Nat, m + i = l.length ∧ L = [.int .i64 (i : Int)] ∧ (∀ (j : Nat) (t : ByteArray), j < i → l[j]? = some t → t ≠ s) ∧ H = H' ∧ nx = nx') ?_ (m := l.length) ⟨0, by omega, rfl, fun j t hj => by omega, rfl, rfl⟩
  rintro m ih L _ _ ⟨i, hm, rfl, hst, rfl, rfl⟩ hih
  simp (disch := first | omega | assumption | exact shr_lt (by assumption) | exact ndiff32 (by assumption) | exact below_lt (by omega) | fail) only [List.getD_cons_zero, wBin_lss, wIf_bool, and_true, and_self, wBin_add64]
  by_cases hi : i < l.length
  · have hi' : (i : Int) < (l.length : Int) := by omega
    obtain ⟨b, o, row, rfl, hb, hrow, hget⟩ := hS.open (i := i) (by rw [strs_length]; exact hi)
    have hv0 : l[i]? = some l[i] := List.getElem?_eq_getElem hi
    generalize l[i] = z at hv0
    by_cases he : s = z
    · have d : decide (s = z) = true := by simp [he]
      simp (disch := first | omega | assumption | exact shr_lt (by assumption) | exact ndiff32 (by assumption) | exact below_lt (by omega) | fail) only [wIf_bool, wLd_none, cellP_one, Option.elim_some, decide_true, if_true, wIdx_slice, Int.toNat_natCast, Nat.mul_one, hi', ldP_row hrow, hget _ _ (strs_get hv0), wBin_streq, d]
      rw [idxOf_at (by rw [he]; exact hv0) hst]
    · have d : decide (s = z) = false := by simp [he]
      simp (disch := first | omega | assumption | exact shr_lt (by assumption) | exact ndiff32 (by assumption) | exact below_lt (by omega) | fail) only [wIf_bool, wLd_none, cellP_one, Option.elim_some, decide_true, if_true, if_false, Bool.false_eq_true, wIdx_slice, Int.toNat_natCast, Nat.mul_one, hi', ldP_row hrow, hget _ _ (strs_get hv0), wBin_streq, d]
      exact hih (m - 1) _ _ _ (by omega) ⟨i + 1, by omega, by simp, fun j t hj ht => by
        by_cases hji : j = i
        · subst hji; rw [hv0] at ht; cases ht; exact fun h => he h.symm
        · exact hst j t (by omega) ht, rfl, rfl⟩
  · have hi' : ¬ (i : Int) < (l.length : Int) := by omega
    simp (disch := first | omega | assumption | exact shr_lt (by assumption) | exact ndiff32 (by assumption) | exact below_lt (by omega) | fail) only [decide_false, if_false, Bool.false_eq_true, hi']
    rw [idxOf_none fun j t ht => hst j t (by have := (List.getElem?_eq_some_iff.1 ht).1; omega) ht]
theorem contains23 (A : Option Addr) (l : List ByteArray) (s : ByteArray) (cap : Nat) (H : Heap) (nx : Nat) (hS : Sl H nx A (strs l)) (hl : l.length ≤ 1000000) : Ans Tryz.prog 39 [.slice A l.length cap, .string s] H nx fun r H' nx' => .bool (decide (0 ≤ idxOf l s)) = r ∧ H = H' ∧ nx = nx' := by
  refine spec39 ?_
  unfold F39
  refine wCall_rule (index22 A l s cap H nx hS hl) ?_
  rintro _ _ _ ⟨rfl, rfl, rfl⟩
  simp (disch := first | omega | assumption | exact shr_lt (by assumption) | exact ndiff32 (by assumption) | exact below_lt (by omega) | fail) only [wBin_geq, forceV_eq, and_true, and_self]

theorem index_of_count {l : List UInt8} (h : 0 < l.count 32) : ∃ o : Nat, Lib.indexByte l 32 = (o : Int) ∧ l[o]? = some 32 ∧ ∀ (k : Nat), k < o → l[k]? ≠ some 32 := by
  have hge := Lib.indexByte_ge l 32
  rcases Int.lt_or_le (Lib.indexByte l 32) 0 with h1 | h1
  · have h2 : Lib.indexByte l 32 = -1 := by omega
    have hn := Lib.indexByte_none h2
    obtain ⟨j, hj⟩ := List.mem_iff_getElem?.1 (List.count_pos_iff.1 h)
    exact absurd hj (hn j)
  · obtain ⟨o, ho⟩ := Int.eq_ofNat_of_zero_le h1
    exact ⟨o, ho, Lib.indexByte_some ho⟩
theorem set_part (zl : List (List UInt8)) (n : Nat) (p : List UInt8) (h : zl.length < n) : (zl.map mkB ++ List.replicate (n - zl.length) (⟨#[]⟩ : ByteArray)).set zl.length (mkB p) = (zl ++ [p]).map mkB ++ List.replicate (n - (zl.length + 1)) ⟨#[]⟩ := by
  rw [show n - zl.length = (n - (zl.length + 1)) + 1 by omega, List.replicate_succ, List.set_append_right _ _ (by simp)]
  simp

set_option maxHeartbeats 2000000 in
theorem gen35 (s : ByteArray) (H : Heap) (nx : Nat) (hs : s.size ≤ 100000) : Ans Tryz.prog 68 [.string s, .string ⟨#[32]⟩, .int .i64 0, .int .i64 (-1)] H nx fun r H' nx' => .slice (some ⟨nx, 0, none⟩) (splitS s).length (splitS s).length = r ∧ getH H' nx = some (.cells (strs (splitS s)) 0) ∧ nx + 1 = nx' ∧ Ext H nx H' nx' := by
  refine spec68 ?_
  unfold F68
  have hlen := data_size s
  have d1 : decide ((-1 : Int) = 0) = false := by decide
  have d2 : decide ((⟨#[32]⟩ : ByteArray) = ⟨#[]⟩) = false := by decide
  have d3 : (-1 : Int) < 0 := by decide
  have hcnt : s.data.toList.count 32 ≤ s.size := by rw [← hlen]; exact List.count_le_length
  rw [splitS_length]
  generalize hc : s.data.toList.count 32 = cnt at hcnt
  simp (disch := first | omega | assumption | exact shr_lt (by assumption) | exact ndiff32 (by assumption) | exact below_lt (by omega) | fail) only [wBin_lss, wBin_eql, wIf_bool, wLen_string, wNew_eq, forceV_eq, Yld.val, if_false, Bool.false_eq_true, wBin_add64, d1, wBin_streq, d2]
  refine wJoin_rule (fun L H' nx' => L = [.int .i64 ((cnt + 1 : Nat) : Int)] ∧ H = H' ∧ nx = nx') ?_ ?_
  · intro j hj
    simp (disch := first | omega | assumption | exact shr_lt (by assumption) | exact ndiff32 (by assumption) | exact below_lt (by omega) | fail) only [decide_true, if_true, d3]
    refine wCall_rule (count46 s 32 H nx) ?_
    rintro _ _ _ ⟨rfl, rfl, rfl⟩
    have e : Lib.countByte s.data.toList 32 = cnt := hc
    rw [e]
    rw [wBin_add64 _ _ _ (by omega) (by omega)]
    exact hj _ _ _ ⟨by simp, rfl, rfl⟩
  rintro _ _ _ ⟨rfl, rfl, rfl⟩
  have hmin : ((cnt + 1 : Nat) : Int) ≤ (s.size : Int) + 1 := by omega
  have e1 : ((cnt + 1 : Nat) : Int) - 1 = (cnt : Int) := by omega
  have hn : cnt + 1 ≤ 1000000 := by omega
  simp (disch := first | omega | assumption | exact shr_lt (by assumption) | exact ndiff32 (by assumption) | exact below_lt (by omega) | fail) only [List.getD_cons_zero, wBin_sub64, wVf_min hmin, dMsl_strs hn, e1]
  refine wJoin_rule (fun L H' nx' => ∃ (r : List UInt8) (zl : List (List UInt8)), L = [.string (mkB r), .int .i64 (cnt : Int)] ∧ zl.length = cnt ∧ splitL s.data.toList = zl ++ splitL r ∧ r.count 32 = 0 ∧ getH H' nx = some (.cells (strs (zl.map mkB ++ List.replicate (cnt + 1 - zl.length) ⟨#[]⟩)) 0) ∧ nx + 1 = nx' ∧ Ext H nx H' nx') ?_ ?_
  · intro j hj
    refine wLoop_rule (fun m L H' nx' => ∃ (r : List UInt8) (zl : List (List UInt8)), m + zl.length = cnt ∧ L = [.string (mkB r), .int .i64 (zl.length : Int)] ∧ splitL s.data.toList = zl ++ splitL r ∧ zl.length + r.count 32 = cnt ∧ r.length ≤ s.size ∧ getH H' nx = some (.cells (strs (zl.map mkB ++ List.replicate (cnt + 1 - zl.length) ⟨#[]⟩)) 0) ∧ nx + 1 = nx' ∧ Ext H nx H' nx') ?_ (m := cnt) ⟨s.data.toList, [], by simp, by rw [mkB_of]; rfl, by simp, by simp [hc], by omega, by rw [getH_same]; simp, rfl, (Ext.refl H nx).new _ (Nat.le_refl _) (by omega)⟩
    rintro m ih L H1 _ ⟨r, zl, hm, rfl, hsp, hct, hrl, hg, rfl, hE⟩ hih
    simp (disch := first | omega | assumption | exact shr_lt (by assumption) | exact ndiff32 (by assumption) | exact below_lt (by omega) | fail) only [List.getD_cons_zero, List.getD_cons_succ, wBin_lss, wIf_bool, Nat.zero_add, wBin_add64, wIdx_slice, Int.toNat_natCast, Nat.mul_one]
    by_cases hi : zl.length < cnt
    · have hi' : (zl.length : Int) < (cnt : Int) := by omega
      have hi2 : (zl.length : Int) < ((cnt + 1 : Nat) : Int) := by omega
      obtain ⟨o, ho, hat, hbef⟩ := index_of_count (l := r) (by omega)
      have hol : o < r.length := (List.getElem?_eq_some_iff.1 hat).1
      simp (disch := first | omega | assumption | exact shr_lt (by assumption) | exact ndiff32 (by assumption) | exact below_lt (by omega) | fail) only [decide_true, if_true, hi']
      refine wCall_rule (index47 (mkB r) 32 H1 (nx + 1)) ?_
      rintro _ _ _ ⟨rfl, rfl, rfl⟩
      rw [mkB_data, ho]
      have g1 : ¬ (o : Int) < 0 := by omega
      have e2 : (((⟨#[32]⟩ : ByteArray).size : Nat) : Int) = 1 := rfl
      have e3 : (o : Int) + 1 = ((o + 1 : Nat) : Int) := by omega
      have hsz := mkB_size r
      have t1 := fun k => wVf_take (s := mkB r) (h := o) (by omega) k
      have t2 := fun k => wVf_drop (s := mkB r) (a := o + 1) (by omega) k
      simp (disch := first | omega | assumption | exact shr_lt (by assumption) | exact ndiff32 (by assumption) | exact below_lt (by omega) | fail) only [wBin_lss, wIf_bool, decide_false, if_false, Bool.false_eq_true, Nat.zero_add, wBin_add64, wSt_string, stP_cells, List.length_cons, List.length_nil, g1, Int.add_zero, t1, hg, e2, e3, t2, strs_length, List.length_append, List.length_map, List.length_replicate]
      refine ⟨by omega, ?_⟩
      have h0 : (0 : Nat) + (zl.length : Int).toNat * 1 = zl.length := by omega
      have p1 : (mkB r).extract 0 o = mkB (r.take o) := by rw [extract_mk, mkB_data]; simp
      have p2 : (mkB r).extract (o + 1) (mkB r).size = mkB (r.drop (o + 1)) := by rw [extract_mk, mkB_data, List.take_of_length_le (by rw [List.length_drop, mkB_size]; omega)]
      have hcut := drop_at (f := 0) (Nat.zero_le o) hat
      simp only [List.drop_zero, Nat.sub_zero] at hcut
      have hno : ∀ c ∈ r.take o, c ≠ 32 := fun c hc => by
        obtain ⟨j, hj⟩ := List.mem_iff_getElem?.1 hc
        rw [List.getElem?_take] at hj
        split at hj
        · rename_i hjo
          exact fun e => hbef j hjo (by rw [hj, e])
        · cases hj
      have hsr := (congrArg splitL hcut).trans (splitL_at hno)
      have hcr := congrArg (List.count 32) hcut
      rw [List.count_append, List.count_cons_self, List.count_eq_zero.2 (fun h => hno 32 h rfl)] at hcr
      refine hih (m - 1) _ _ _ (by omega) ⟨r.drop (o + 1), zl ++ [r.take o], by simp; omega, by rw [p2]; simp, by rw [hsp, hsr]; simp, by simp; omega, by rw [List.length_drop]; omega, ?_, rfl, hE.hs (Nat.le_refl _)⟩
      rw [getH_same, p1, putL_strs (by simp; omega), set_part zl (cnt + 1) _ (by omega)]
      simp
    · have hi' : ¬ (zl.length : Int) < (cnt : Int) := by omega
      simp (disch := first | omega | assumption | exact shr_lt (by assumption) | exact ndiff32 (by assumption) | exact below_lt (by omega) | fail) only [decide_false, if_false, Bool.false_eq_true, hi']
      exact hj _ _ _ ⟨r, zl, by rw [show zl.length = cnt by omega], by omega, hsp, by omega, hg, rfl, hE⟩
  rintro _ H1 _ ⟨r, zl, rfl, hzl, hsp, hct, hg, rfl, hE⟩
  have hi2 : (cnt : Int) < ((cnt + 1 : Nat) : Int) := by omega
  have e3 : (cnt : Int) + 1 = ((cnt + 1 : Nat) : Int) := by omega
  simp (disch := first | omega | assumption | exact shr_lt (by assumption) | exact ndiff32 (by assumption) | exact below_lt (by omega) | fail) only [List.getD_cons_zero, List.getD_cons_succ, getH_same, Nat.zero_add, true_and, wBin_add64, wIdx_slice, Int.toNat_natCast, Nat.mul_one, wSt_string, stP_cells, List.length_cons, List.length_nil, hg, e3, strs_length, List.length_append, List.length_map, List.length_replicate]
  refine ⟨by omega, ?_⟩
  rw [wSl_hi (getH_same _ _ _) (Nat.le_refl _) (.inl rfl)]
  refine ⟨rfl, ?_, hE.hs (Nat.le_refl _)⟩
  have hno : ∀ c ∈ r, c ≠ 32 := fun c hc e => by
    subst e
    have := List.count_pos_iff.2 hc
    omega
  rw [splitL_last hno] at hsp
  subst hzl
  rw [putL_strs (by simp), set_part zl (zl.length + 1) r (by omega), splitS, hsp]
  simp
theorem split21 (s : ByteArray) (H : Heap) (nx : Nat) (hs : s.size ≤ 100000) : Ans Tryz.prog 37 [.string s, .string ⟨#[32]⟩] H nx fun r H' nx' => .slice (some ⟨nx, 0, none⟩) (splitS s).length (splitS s).length = r ∧ getH H' nx = some (.cells (strs (splitS s)) 0) ∧ nx + 1 = nx' ∧ Ext H nx H' nx' := by
  refine spec37 ?_
  unfold F37
  refine wCall_rule (gen35 s H nx hs) ?_
  rintro _ H1 _ ⟨rfl, hg, rfl, hE⟩
  simp (disch := first | omega | assumption | exact shr_lt (by assumption) | exact ndiff32 (by assumption) | exact below_lt (by omega) | fail) only [forceV_eq, true_and]
  exact ⟨hg, hE⟩
end Go.Proofs.YthbdeaeghipliaaGreatDoor

set_option linter.unusedSimpArgs false
set_option linter.unusedVariables false
set_option linter.unusedSectionVars false
namespace Go.Proofs.YthbdeaeghipliaaGreatDoor
open Go.Clo

def emp : ByteArray := ⟨#[]⟩
/-- The indices of these strings. -/
def idxs (vs : List ByteArray) : List ByteArray → Option (List Int)
  | [] => some []
  | s :: r => if idxOf vs s < 0 then none else (idxs vs r).map (idxOf vs s :: ·)
theorem idxs_snoc {vs : List ByteArray} {x : ByteArray} (hx : ¬ idxOf vs x < 0) : ∀ {l : List ByteArray} {zs : List Int}, idxs vs l = some zs → idxs vs (l ++ [x]) = some (zs ++ [idxOf vs x])
  | [], zs, h => by
    cases h
    simp [idxs, hx]
  | i :: r, zs, h => by
    unfold idxs at h
    by_cases hp : idxOf vs i < 0
    · rw [if_pos hp] at h; cases h
    · rw [if_neg hp] at h
      obtain ⟨ys, h1, rfl⟩ := Option.map_eq_some_iff.1 h
      rw [List.cons_append, idxs, if_neg hp, idxs_snoc hx h1]
      rfl
theorem idxs_bad {vs : List ByteArray} {x : ByteArray} (hx : idxOf vs x < 0) : ∀ {l : List ByteArray}, x ∈ l → idxs vs l = none
  | i :: r, h => by
    rcases List.mem_cons.1 h with rfl | h
    · rw [idxs, if_pos hx]
    · rw [idxs]
      split
      · rfl
      · rw [idxs_bad hx h]; rfl
theorem idxs_length {vs : List ByteArray} : ∀ {l : List ByteArray} {zs : List Int}, idxs vs l = some zs → zs.length = l.length
  | [], zs, h => by cases h; rfl
  | i :: r, zs, h => by
    unfold idxs at h
    by_cases hp : idxOf vs i < 0
    · rw [if_pos hp] at h; cases h
    · rw [if_neg hp] at h
      obtain ⟨ys, h1, rfl⟩ := Option.map_eq_some_iff.1 h
      simp [idxs_length h1]
theorem idxOf_ge (l : List ByteArray) (s : ByteArray) : -1 ≤ idxOf l s := by
  unfold idxOf
  split <;> omega
theorem idxOf_neg {l : List ByteArray} {s : ByteArray} : idxOf l s < 0 ↔ s ∉ l := by
  by_cases h : s ∈ l
  · rw [idxOf_yes h]; simp [h]
  · rw [idxOf_not h]; simp [h]

open Classical in
/-- The verdict that a text says: its kind, its list, the error code. -/
noncomputable def parseOf (vs : List ByteArray) (s : ByteArray) : Int × List Int × Int :=
  if codeOf vs ≠ 0 then (0, [], codeOf vs) else if idxOf wordL ((splitS s).headD emp) < 0 ∨ emp ∈ splitS s then (0, [], 15) else match idxs vs (splitS s).tail with
  | none => (0, [], 7)
  | some l => (idxOf wordL ((splitS s).headD emp), l, 0)
theorem parseOf_code {vs : List ByteArray} (h : codeOf vs ≠ 0) (s : ByteArray) : parseOf vs s = (0, [], codeOf vs) := if_pos h
theorem parseOf_form {vs : List ByteArray} {s : ByteArray} (h : codeOf vs = 0) (hk : idxOf wordL ((splitS s).headD emp) < 0 ∨ emp ∈ splitS s) : parseOf vs s = (0, [], 15) := by
  unfold parseOf; rw [if_neg (by simp [h]), if_pos hk]
theorem parseOf_none {vs : List ByteArray} {s : ByteArray} (h : codeOf vs = 0) (hk : ¬ (idxOf wordL ((splitS s).headD emp) < 0 ∨ emp ∈ splitS s)) (hl : idxs vs (splitS s).tail = none) : parseOf vs s = (0, [], 7) := by
  unfold parseOf; rw [if_neg (by simp [h]), if_neg hk, hl]
theorem parseOf_some {vs : List ByteArray} {s : ByteArray} (h : codeOf vs = 0) (hk : ¬ (idxOf wordL ((splitS s).headD emp) < 0 ∨ emp ∈ splitS s)) {l : List Int} (hl : idxs vs (splitS s).tail = some l) : parseOf vs s = (idxOf wordL ((splitS s).headD emp), l, 0) := by
  unfold parseOf; rw [if_neg (by simp [h]), if_neg hk, hl]
theorem split_open (s : ByteArray) : ∃ h t, splitS s = h :: t := by
  cases hh : splitS s with
  | nil => have := splitS_pos s; rw [hh] at this; simp at this
  | cons h t => exact ⟨h, t, rfl⟩
theorem splitS_le (s : ByteArray) : (splitS s).length ≤ s.size + 1 := by
  rw [splitS_length, ← data_size]
  have := List.count_le_length (a := (32 : UInt8)) (l := s.data.toList)
  omega

theorem AccL.low {lo lo' : Nat} {H : Heap} {nx : Nat} {v : Value} {c : List Value} (h : AccL lo H nx v c) (hl : lo' ≤ lo) : AccL lo' H nx v c := by
  rcases h with h | ⟨h0, b, h1, h2⟩
  · left
    refine ⟨h.1, h.2.imp id ?_⟩
    rintro ⟨b, h1, h2⟩
    exact ⟨b, Nat.le_trans hl h1, h2⟩
  · exact .inr ⟨h0, b, Nat.le_trans hl h1, h2⟩
theorem AccL.put {lo i : Nat} {H : Heap} {nx : Nat} {v : Value} {c : List Value} (h : AccL lo H nx v c) (hi : i < lo) (b : Option Blk) : AccL lo (Go.Clo.hs H i b) nx v c := by
  rcases h with h | ⟨h0, b, h1, h2, h3, h4⟩
  · left
    refine ⟨h.1, h.2.imp id ?_⟩
    rintro ⟨b, h1, h2, h3, h4⟩
    exact ⟨b, h1, h2, h3, by rw [getH_ne _ (by omega)]; exact h4⟩
  · exact .inr ⟨h0, b, h1, h2, h3, by rw [getH_ne _ (by omega)]; exact h4⟩
theorem AccL.zero (lo : Nat) (H : Heap) (nx : Nat) : AccL lo H nx (.slice none 0 0) (i64s []) := .inl (Acc.nil _ _ _ _)
end Go.Proofs.YthbdeaeghipliaaGreatDoor

set_option linter.unusedSimpArgs false
set_option linter.unusedVariables false
set_option linter.unusedSectionVars false
namespace Go.Proofs.YthbdeaeghipliaaGreatDoor
open Go.Clo
set_option maxRecDepth 100000
/-! 88: ordinal/value.Valid -/
def d88 : D :=
  (.seq
    (.ops [
        (none, [⟨none, some 1, .a (.box (.s 0))⟩,
        ⟨none, some 2, .p (.mv (.c (.bool false)))⟩])] (.one .nil))
    (.seq
      (.seq
        (.ops [
            (none, [⟨none, some 3, .p (.fld (.s 1) 0)⟩,
            ⟨none, some 4, .r (.ld (.s 3) none)⟩])] (.one .nil))
        (.block 0
          (.seq
            (.ops [
                (none, [⟨none, some 6, .p (.bin .eql (.s 4) (.c (.int .i64 1)))⟩,
                ⟨none, some 5, .p (.mv (.s 6))⟩])] (.one .nil))
            (.cond (.s 5)
              (.seq
                (.ops [
                    (none, [⟨none, some 7, .p (.fld (.s 1) 2)⟩,
                    ⟨none, some 8, .r (.ld (.s 7) none)⟩,
                    ⟨none, some 9, .p (.bin .eql (.s 8) (.c (.string ⟨#[]⟩)))⟩,
                    ⟨none, some 2, .p (.mv (.s 9))⟩])] (.one .nil))
                .ret)
              (.seq
                (.ops [
                    (none, [⟨none, some 11, .p (.bin .eql (.s 4) (.c (.int .i64 2)))⟩,
                    ⟨none, some 10, .p (.mv (.s 11))⟩])] (.one .nil))
                (.cond (.s 10)
                  (.seq
                    (.ops [
                        (none, [⟨none, some 12, .p (.fld (.s 1) 1)⟩,
                        ⟨none, some 13, .r (.ld (.s 12) none)⟩,
                        ⟨none, some 14, .p (.bin .eql (.s 13) (.c (.int .i64 0)))⟩,
                        ⟨none, some 15, .p (.mv (.s 14))⟩]),
                        (some (15, true), [⟨none, some 16, .p (.fld (.s 1) 2)⟩,
                        ⟨none, some 17, .r (.ld (.s 16) none)⟩,
                        ⟨none, some 18, .r (.len (.s 17) 1)⟩,
                        ⟨none, some 19, .p (.bin .leq (.s 18) (.c (.int .i64 24)))⟩]),
                        (none, [⟨none, some 20, .p (.pick (.s 15) (.s 19) (.c (.bool false)))⟩,
                        ⟨none, some 2, .p (.mv (.s 20))⟩])] (.one (.tst (.one .nil) (.one .nil))))
                    .ret)
                  .skip))))))
      (.seq
        (.ops [
            (none, [⟨none, some 2, .p (.mv (.c (.bool false)))⟩])] (.one .nil))
        .ret)))
theorem cfn88 : cfn Tryz.prog 88 = some ⟨21, 5, d88.erase, [(.s 2, none)]⟩ := by kernel_rfl
theorem ok88 : d88.ok 21 5 = true := by kernel_rfl
noncomputable def F88 (a0 : Value) (H : Heap) (nx : Nat) (k : EP) : Prop :=
  dBox a0 fun tc_1 => wNew (.cells tc_1 0) .ptr H nx fun t1_2 H1 nx1 =>
  wFld t1_2 0 fun t3_3 =>
  wLd t3_3 none H1 fun t4_4 =>
  wBin .eql t4_4 (.int .i64 1) fun t6_5 =>
  wIf t6_5 (
    wFld t1_2 2 fun t7_6 =>
    wLd t7_6 none H1 fun t8_7 =>
    wBin .eql t8_7 (.string ⟨#[]⟩) fun t9_8 =>
    forceV t9_8 fun tv_9 => k tv_9 H1 nx1) (
    wBin .eql t4_4 (.int .i64 2) fun t11_10 =>
    wIf t11_10 (
      wFld t1_2 1 fun t12_11 =>
      wLd t12_11 none H1 fun t13_12 =>
      wBin .eql t13_12 (.int .i64 0) fun t14_13 =>
      wGuard true t14_13 (
        wFld t1_2 2 fun t16_14 =>
        wLd t16_14 none H1 fun t17_15 =>
        wLen t17_15 1 H1 fun t18_16 =>
        wBin .leq t18_16 (.int .i64 24) fun t19_17 =>
        forceV t19_17 fun tv_18 => k tv_18 H1 nx1) (
        forceV (.bool false) fun tv_19 => k tv_19 H1 nx1)) (
      forceV (.bool false) fun tv_20 => k tv_20 H1 nx1))
theorem eq88 (a0 : Value) (H : Heap) (nx : Nat) (k : EP) : wBody Tryz.prog 21 5 d88 [(.s 2, none)] [a0] H nx k = F88 a0 H nx k := by kernel_rfl
theorem spec88 {a0 : Value} {H : Heap} {nx : Nat} {k : EP} (h : F88 a0 H nx k) : Ans Tryz.prog 88 [a0] H nx k :=
  spec_of_body mixed namesOK cfn88 ok88 (by simp) ((eq88 a0 H nx k).symm ▸ h)

/-! 69: ordinal/ast.valid -/
def d69 : D :=
  (.seq
    (.ops [
        (none, [⟨none, some 2, .p (.mv (.c (.bool false)))⟩])] (.one .nil))
    (.seq
      (.seq
        (.ops [
            (none, [⟨none, some 3, .p (.mv (.s 0))⟩])] (.one .nil))
        (.block 0
          (.join [4] [5, 6, 7, 8, 9, 10, 11]
            (.seq
              (.ops [
                  (none, [⟨none, some 5, .p (.bin .eql (.s 3) (.c (.string ⟨#[99, 111, 117, 110, 116]⟩)))⟩,
                  ⟨none, some 4, .p (.mv (.s 5))⟩])] (.one .nil))
              (.cond (.s 4)
                .skip
                (.seq
                  (.ops [
                      (none, [⟨none, some 6, .p (.bin .eql (.s 3) (.c (.string ⟨#[100, 101, 115, 99]⟩)))⟩,
                      ⟨none, some 4, .p (.mv (.s 6))⟩])] (.one .nil))
                  (.cond (.s 4)
                    .skip
                    (.seq
                      (.ops [
                          (none, [⟨none, some 7, .p (.bin .eql (.s 3) (.c (.string ⟨#[109, 97, 120]⟩)))⟩,
                          ⟨none, some 4, .p (.mv (.s 7))⟩])] (.one .nil))
                      (.cond (.s 4)
                        .skip
                        (.seq
                          (.ops [
                              (none, [⟨none, some 8, .p (.bin .eql (.s 3) (.c (.string ⟨#[109, 105, 110]⟩)))⟩,
                              ⟨none, some 4, .p (.mv (.s 8))⟩])] (.one .nil))
                          (.cond (.s 4)
                            .skip
                            (.seq
                              (.ops [
                                  (none, [⟨none, some 9, .p (.bin .eql (.s 3) (.c (.string ⟨#[110, 111, 116]⟩)))⟩,
                                  ⟨none, some 4, .p (.mv (.s 9))⟩])] (.one .nil))
                              (.cond (.s 4)
                                .skip
                                (.seq
                                  (.ops [
                                      (none, [⟨none, some 10, .p (.bin .eql (.s 3) (.c (.string ⟨#[111, 114, 100, 101, 114]⟩)))⟩,
                                      ⟨none, some 4, .p (.mv (.s 10))⟩])] (.one .nil))
                                  (.cond (.s 4)
                                    .skip
                                    (.ops [
                                        (none, [⟨none, some 11, .p (.bin .eql (.s 3) (.c (.string ⟨#[115, 117, 109]⟩)))⟩,
                                        ⟨none, some 4, .p (.mv (.s 11))⟩])] (.one .nil))))))))))))))
            (.cond (.s 4)
              (.seq
                (.ops [
                    (none, [⟨none, some 2, .p (.mv (.c (.bool false)))⟩])] (.one .nil))
                .ret)
              .skip))))
      (.seq
        (.ops [
            (none, [⟨none, some 12, .p (.mv (.s 0))⟩,
            ⟨none, some 13, .e (.call (.c (.func (.func 93) ⟨[]⟩ ⟨[]⟩)) [.s 12])⟩,
            ⟨none, some 2, .p (.mv (.s 13))⟩])] (.one .nil))
        .ret)))
theorem cfn69 : cfn Tryz.prog 69 = some ⟨14, 4, d69.erase, [(.s 2, none)]⟩ := by kernel_rfl
theorem ok69 : d69.ok 14 4 = true := by kernel_rfl
noncomputable def F69 (a0 : Value) (H : Heap) (nx : Nat) (k : EP) : Prop :=
  wJoin (fun tj_1 =>
    wBin .eql a0 (.string ⟨#[99, 111, 117, 110, 116]⟩) fun t5_3 =>
    wIf t5_3 (
      tj_1 [t5_3] H nx) (
      wBin .eql a0 (.string ⟨#[100, 101, 115, 99]⟩) fun t6_4 =>
      wIf t6_4 (
        tj_1 [t6_4] H nx) (
        wBin .eql a0 (.string ⟨#[109, 97, 120]⟩) fun t7_5 =>
        wIf t7_5 (
          tj_1 [t7_5] H nx) (
          wBin .eql a0 (.string ⟨#[109, 105, 110]⟩) fun t8_6 =>
          wIf t8_6 (
            tj_1 [t8_6] H nx) (
            wBin .eql a0 (.string ⟨#[110, 111, 116]⟩) fun t9_7 =>
            wIf t9_7 (
              tj_1 [t9_7] H nx) (
              wBin .eql a0 (.string ⟨#[111, 114, 100, 101, 114]⟩) fun t10_8 =>
              wIf t10_8 (
                tj_1 [t10_8] H nx) (
                wBin .eql a0 (.string ⟨#[115, 117, 109]⟩) fun t11_9 =>
                tj_1 [t11_9] H nx))))))) (fun tL_2 H1 nx1 =>
    wIf (tL_2.getD 0 undef) (
      forceV (.bool false) fun tv_10 => k tv_10 H1 nx1) (
      wCall Tryz.prog 93 [a0] H1 nx1 fun t13_11 H2 nx2 =>
      forceV t13_11 fun tv_12 => k tv_12 H2 nx2))
theorem eq69 (a0 : Value) (H : Heap) (nx : Nat) (k : EP) : wBody Tryz.prog 14 4 d69 [(.s 2, none)] [a0] H nx k = F69 a0 H nx k := by kernel_rfl
theorem spec69 {a0 : Value} {H : Heap} {nx : Nat} {k : EP} (h : F69 a0 H nx k) : Ans Tryz.prog 69 [a0] H nx k :=
  spec_of_body mixed namesOK cfn69 ok69 (by simp) ((eq69 a0 H nx k).symm ▸ h)

/-! 41: ordinal/ast.checkHead -/
def d41 : D :=
  (.seq
    (.ops [
        (none, [⟨none, some 2, .p (.mv (.c (.int .i64 0)))⟩])] (.one .nil))
    (.seq
      (.seq
        (.ops [
            (none, [⟨none, some 5, .p (.mv (.s 0))⟩,
            ⟨none, some 6, .r (.len (.s 5) 0)⟩,
            ⟨none, some 7, .p (.bin .gtr (.s 6) (.c (.int .i64 6)))⟩])] (.one .nil))
        (.cond (.s 7)
          (.seq
            (.ops [
                (none, [⟨none, some 2, .p (.mv (.c (.int .i64 12)))⟩])] (.one .nil))
            .ret)
          .skip))
      (.seq
        (.seq
          (.ops [
              (none, [⟨none, some 8, .p (.mv (.s 0))⟩,
              ⟨none, some 9, .r (.len (.s 8) 0)⟩,
              ⟨none, some 10, .p (.mv (.c (.int .i64 0)))⟩])] (.one .nil))
          (.block 0
            (.loop [10] [2, 3, 4, 11, 12, 13, 14, 15, 16, 17, 18, 19, 20, 21, 22, 23]
              (.seq
                (.ops [
                    (none, [⟨none, some 11, .p (.bin .lss (.s 10) (.s 9))⟩])] (.one .nil))
                (.seq
                  (.cond (.s 11)
                    .skip
                    (.exit 0))
                  (.seq
                    (.block 1
                      (.seq
                        (.ops [
                            (none, [⟨none, some 12, .p (.mv (.s 10))⟩,
                            ⟨none, some 13, .p (.idx (.s 8) (.s 10) none 1)⟩,
                            ⟨none, some 14, .r (.ld (.s 13) none)⟩,
                            ⟨none, some 3, .p (.mv (.s 12))⟩,
                            ⟨none, some 4, .p (.mv (.s 14))⟩])] (.one .nil))
                        (.seq
                          (.seq
                            (.ops [
                                (none, [⟨none, some 15, .p (.mv (.s 4))⟩,
                                ⟨none, some 16, .e (.call (.c (.func (.func 69) ⟨[]⟩ ⟨[]⟩)) [.s 15])⟩,
                                ⟨none, some 17, .p (.un .not (.s 16))⟩])] (.one .nil))
                            (.cond (.s 17)
                              (.seq
                                (.ops [
                                    (none, [⟨none, some 2, .p (.mv (.c (.int .i64 7)))⟩])] (.one .nil))
                                .ret)
                              .skip))
                          (.seq
                            (.ops [
                                (none, [⟨none, some 18, .p (.mv (.s 0))⟩,
                                ⟨none, some 19, .p (.mv (.s 3))⟩,
                                ⟨none, some 20, .r (.sl (.s 18) 1 none (some (.s 19)) none)⟩,
                                ⟨none, some 21, .p (.mv (.s 4))⟩,
                                ⟨none, some 22, .e (.call (.c (.func (.func 39) ⟨[]⟩ ⟨[]⟩)) [.s 20, .s 21])⟩])] (.one .nil))
                            (.cond (.s 22)
                              (.seq
                                (.ops [
                                    (none, [⟨none, some 2, .p (.mv (.c (.int .i64 8)))⟩])] (.one .nil))
                                .ret)
                              .skip)))))
                    (.ops [
                        (none, [⟨none, some 23, .p (.bin .add (.s 10) (.c (.int .i64 1)))⟩,
                        ⟨none, some 10, .p (.mv (.s 23))⟩])] (.one .nil))))))))
        (.seq
          (.ops [
              (none, [⟨none, some 2, .p (.mv (.c (.int .i64 0)))⟩])] (.one .nil))
          .ret))))
theorem cfn41 : cfn Tryz.prog 41 = some ⟨24, 5, d41.erase, [(.s 2, none)]⟩ := by kernel_rfl
theorem ok41 : d41.ok 24 5 = true := by kernel_rfl
noncomputable def F41 (a0 : Value) (H : Heap) (nx : Nat) (k : EP) : Prop :=
  wLen a0 0 H fun t6_1 =>
  wBin .gtr t6_1 (.int .i64 6) fun t7_2 =>
  wIf t7_2 (
    forceV (.int .i64 12) fun tv_3 => k tv_3 H nx) (
    wLen a0 0 H fun t9_4 =>
    wLoop (fun tih_5 tL_6 H1 nx1 =>
      wBin .lss (tL_6.getD 0 undef) t9_4 fun t11_7 =>
      wIf t11_7 (
        wIdx a0 (tL_6.getD 0 undef) none 1 fun t13_8 =>
        wLd t13_8 none H1 fun t14_9 =>
        wCall Tryz.prog 69 [t14_9] H1 nx1 fun t16_10 H2 nx2 =>
        wUn .not t16_10 fun t17_11 =>
        wIf t17_11 (
          forceV (.int .i64 7) fun tv_12 => k tv_12 H2 nx2) (
          wSl a0 1 none (some (tL_6.getD 0 undef)) none H2 fun t20_13 =>
          wCall Tryz.prog 39 [t20_13, t14_9] H2 nx2 fun t22_14 H3 nx3 =>
          wIf t22_14 (
            forceV (.int .i64 8) fun tv_15 => k tv_15 H3 nx3) (
            wBin .add (tL_6.getD 0 undef) (.int .i64 1) fun t23_16 =>
            tih_5 [t23_16] H3 nx3))) (
        forceV (.int .i64 0) fun tv_17 => k tv_17 H1 nx1)) [(.int .i64 0)] H nx)
theorem eq41 (a0 : Value) (H : Heap) (nx : Nat) (k : EP) : wBody Tryz.prog 24 5 d41 [(.s 2, none)] [a0] H nx k = F41 a0 H nx k := by kernel_rfl
theorem spec41 {a0 : Value} {H : Heap} {nx : Nat} {k : EP} (h : F41 a0 H nx k) : Ans Tryz.prog 41 [a0] H nx k :=
  spec_of_body mixed namesOK cfn41 ok41 (by simp) ((eq41 a0 H nx k).symm ▸ h)

/-! 42: ordinal/ast.checkAggregate -/
def d42 : D :=
  (.seq
    (.ops [
        (none, [⟨none, some 1, .a (.box (.s 0))⟩,
        ⟨none, some 2, .p (.mv (.c (.int .i64 0)))⟩])] (.one .nil))
    (.seq
      (.seq
        (.ops [
            (none, [⟨none, some 3, .p (.fld (.s 1) 1)⟩,
            ⟨none, some 4, .r (.ld (.s 3) none)⟩])] (.one .nil))
        (.block 0
          (.join [5] [6, 7]
            (.seq
              (.ops [
                  (none, [⟨none, some 6, .p (.bin .eql (.s 4) (.c (.int .i64 0)))⟩,
                  ⟨none, some 5, .p (.mv (.s 6))⟩])] (.one .nil))
              (.cond (.s 5)
                .skip
                (.ops [
                    (none, [⟨none, some 7, .p (.bin .eql (.s 4) (.c (.int .i64 1)))⟩,
                    ⟨none, some 5, .p (.mv (.s 7))⟩])] (.one .nil))))
            (.cond (.s 5)
              (.seq
                (.ops [
                    (none, [⟨none, some 8, .p (.fld (.s 1) 2)⟩,
                    ⟨none, some 9, .r (.ld (.s 8) none)⟩,
                    ⟨none, some 10, .p (.bin .neq (.s 9) (.c (.string ⟨#[]⟩)))⟩])] (.one .nil))
                (.cond (.s 10)
                  (.seq
                    (.ops [
                        (none, [⟨none, some 2, .p (.mv (.c (.int .i64 1)))⟩])] (.one .nil))
                    .ret)
                  .skip))
              (.join [11] [12, 13, 14]
                (.seq
                  (.ops [
                      (none, [⟨none, some 12, .p (.bin .eql (.s 4) (.c (.int .i64 2)))⟩,
                      ⟨none, some 11, .p (.mv (.s 12))⟩])] (.one .nil))
                  (.cond (.s 11)
                    .skip
                    (.seq
                      (.ops [
                          (none, [⟨none, some 13, .p (.bin .eql (.s 4) (.c (.int .i64 3)))⟩,
                          ⟨none, some 11, .p (.mv (.s 13))⟩])] (.one .nil))
                      (.cond (.s 11)
                        .skip
                        (.ops [
                            (none, [⟨none, some 14, .p (.bin .eql (.s 4) (.c (.int .i64 4)))⟩,
                            ⟨none, some 11, .p (.mv (.s 14))⟩])] (.one .nil))))))
                (.cond (.s 11)
                  (.seq
                    (.ops [
                        (none, [⟨none, some 15, .p (.fld (.s 1) 2)⟩,
                        ⟨none, some 16, .r (.ld (.s 15) none)⟩,
                        ⟨none, some 17, .e (.call (.c (.func (.func 69) ⟨[]⟩ ⟨[]⟩)) [.s 16])⟩,
                        ⟨none, some 18, .p (.un .not (.s 17))⟩])] (.one .nil))
                    (.cond (.s 18)
                      (.seq
                        (.ops [
                            (none, [⟨none, some 2, .p (.mv (.c (.int .i64 7)))⟩])] (.one .nil))
                        .ret)
                      .skip))
                  (.seq
                    (.ops [
                        (none, [⟨none, some 2, .p (.mv (.c (.int .i64 2)))⟩])] (.one .nil))
                    .ret)))))))
      (.seq
        (.ops [
            (none, [⟨none, some 2, .p (.mv (.c (.int .i64 0)))⟩])] (.one .nil))
        .ret)))
theorem cfn42 : cfn Tryz.prog 42 = some ⟨19, 5, d42.erase, [(.s 2, none)]⟩ := by kernel_rfl
theorem ok42 : d42.ok 19 5 = true := by kernel_rfl
noncomputable def F42 (a0 : Value) (H : Heap) (nx : Nat) (k : EP) : Prop :=
  dBox a0 fun tc_1 => wNew (.cells tc_1 0) .ptr H nx fun t1_2 H1 nx1 =>
  wFld t1_2 1 fun t3_3 =>
  wLd t3_3 none H1 fun t4_4 =>
  wJoin (fun tj_5 =>
    wBin .eql t4_4 (.int .i64 0) fun t6_7 =>
    wIf t6_7 (
      tj_5 [t6_7] H1 nx1) (
      wBin .eql t4_4 (.int .i64 1) fun t7_8 =>
      tj_5 [t7_8] H1 nx1)) (fun tL_6 H2 nx2 =>
    wIf (tL_6.getD 0 undef) (
      wFld t1_2 2 fun t8_9 =>
      wLd t8_9 none H2 fun t9_10 =>
      wBin .neq t9_10 (.string ⟨#[]⟩) fun t10_11 =>
      wIf t10_11 (
        forceV (.int .i64 1) fun tv_12 => k tv_12 H2 nx2) (
        forceV (.int .i64 0) fun tv_13 => k tv_13 H2 nx2)) (
      wJoin (fun tj_14 =>
        wBin .eql t4_4 (.int .i64 2) fun t12_16 =>
        wIf t12_16 (
          tj_14 [t12_16] H2 nx2) (
          wBin .eql t4_4 (.int .i64 3) fun t13_17 =>
          wIf t13_17 (
            tj_14 [t13_17] H2 nx2) (
            wBin .eql t4_4 (.int .i64 4) fun t14_18 =>
            tj_14 [t14_18] H2 nx2))) (fun tL_15 H3 nx3 =>
        wIf (tL_15.getD 0 undef) (
          wFld t1_2 2 fun t15_19 =>
          wLd t15_19 none H3 fun t16_20 =>
          wCall Tryz.prog 69 [t16_20] H3 nx3 fun t17_21 H4 nx4 =>
          wUn .not t17_21 fun t18_22 =>
          wIf t18_22 (
            forceV (.int .i64 7) fun tv_23 => k tv_23 H4 nx4) (
            forceV (.int .i64 0) fun tv_24 => k tv_24 H4 nx4)) (
          forceV (.int .i64 2) fun tv_25 => k tv_25 H3 nx3))))
theorem eq42 (a0 : Value) (H : Heap) (nx : Nat) (k : EP) : wBody Tryz.prog 19 5 d42 [(.s 2, none)] [a0] H nx k = F42 a0 H nx k := by kernel_rfl
theorem spec42 {a0 : Value} {H : Heap} {nx : Nat} {k : EP} (h : F42 a0 H nx k) : Ans Tryz.prog 42 [a0] H nx k :=
  spec_of_body mixed namesOK cfn42 ok42 (by simp) ((eq42 a0 H nx k).symm ▸ h)

/-! 100: ordinal/ast.checkAtom -/
def d100 : D :=
  (.seq
    (.ops [
        (none, [⟨none, some 1, .a (.box (.s 0))⟩,
        ⟨none, some 2, .p (.mv (.c (.int .i64 0)))⟩])] (.one .nil))
    (.seq
      (.seq
        (.ops [
            (none, [⟨none, some 5, .p (.fld (.s 1) 1)⟩,
            ⟨none, some 6, .r (.ld (.s 5) none)⟩,
            ⟨none, some 7, .e (.call (.c (.func (.func 69) ⟨[]⟩ ⟨[]⟩)) [.s 6])⟩,
            ⟨none, some 8, .p (.un .not (.s 7))⟩])] (.one .nil))
        (.cond (.s 8)
          (.seq
            (.ops [
                (none, [⟨none, some 2, .p (.mv (.c (.int .i64 7)))⟩])] (.one .nil))
            .ret)
          .skip))
      (.seq
        (.seq
          (.ops [
              (none, [⟨none, some 9, .p (.fld (.s 1) 2)⟩,
              ⟨none, some 10, .r (.ld (.s 9) none)⟩,
              ⟨none, some 11, .r (.len (.s 10) 0)⟩,
              ⟨none, some 12, .p (.bin .gtr (.s 11) (.c (.int .i64 6)))⟩])] (.one .nil))
          (.cond (.s 12)
            (.seq
              (.ops [
                  (none, [⟨none, some 2, .p (.mv (.c (.int .i64 12)))⟩])] (.one .nil))
              .ret)
            .skip))
        (.seq
          (.seq
            (.ops [
                (none, [⟨none, some 13, .p (.fld (.s 1) 2)⟩,
                ⟨none, some 14, .r (.ld (.s 13) none)⟩,
                ⟨none, some 15, .r (.len (.s 14) 0)⟩,
                ⟨none, some 16, .p (.mv (.c (.int .i64 0)))⟩])] (.one .nil))
            (.block 0
              (.loop [16] [2, 4, 17, 18, 19, 20, 21, 22, 23, 24, 25, 26, 27, 28, 29, 30, 31, 32, 33, 34, 35, 36, 37, 38]
                (.seq
                  (.ops [
                      (none, [⟨none, some 17, .p (.bin .lss (.s 16) (.s 15))⟩])] (.one .nil))
                  (.seq
                    (.cond (.s 17)
                      .skip
                      (.exit 0))
                    (.join [] [2, 4, 18, 19, 20, 21, 22, 23, 24, 25, 26, 27, 28, 29, 30, 31, 32, 33, 34, 35, 36, 37]
                      (.block 1
                        (.seq
                          (.ops [
                              (none, [⟨none, some 18, .p (.idx (.s 14) (.s 16) none 4)⟩,
                              ⟨none, some 19, .r (.ld (.s 18) (some 4))⟩,
                              ⟨none, some 4, .a (.alloc [.string ⟨#[]⟩, .int .i64 0, .int .i64 0, .string ⟨#[]⟩])⟩,
                              ⟨none, none, .e (.st (.s 4) (.s 19) 4)⟩])] (.one .nil))
                          (.block 2
                            (.seq
                              (.ops [
                                  (none, [⟨none, some 21, .p (.fld (.s 4) 0)⟩,
                                  ⟨none, some 22, .r (.ld (.s 21) none)⟩,
                                  ⟨none, some 23, .p (.bin .eql (.s 22) (.c (.string ⟨#[]⟩)))⟩,
                                  ⟨none, some 20, .p (.mv (.s 23))⟩])] (.one .nil))
                              (.cond (.s 20)
                                (.seq
                                  (.ops [
                                      (none, [⟨none, some 24, .p (.fld (.s 4) 1)⟩,
                                      ⟨none, some 25, .r (.ld (.s 24) (some 3))⟩,
                                      ⟨none, some 26, .e (.call (.c (.func (.func 88) ⟨[]⟩ ⟨[]⟩)) [.s 25])⟩,
                                      ⟨none, some 27, .p (.un .not (.s 26))⟩])] (.one .nil))
                                  (.cond (.s 27)
                                    (.seq
                                      (.ops [
                                          (none, [⟨none, some 2, .p (.mv (.c (.int .i64 4)))⟩])] (.one .nil))
                                      .ret)
                                    .skip))
                                (.seq
                                  (.ops [
                                      (none, [⟨none, some 29, .p (.fld (.s 4) 0)⟩,
                                      ⟨none, some 30, .r (.ld (.s 29) none)⟩,
                                      ⟨none, some 31, .e (.call (.c (.func (.func 69) ⟨[]⟩ ⟨[]⟩)) [.s 30])⟩,
                                      ⟨none, some 32, .p (.un .not (.s 31))⟩,
                                      ⟨none, some 28, .p (.mv (.s 32))⟩])] (.one .nil))
                                  (.cond (.s 28)
                                    (.seq
                                      (.ops [
                                          (none, [⟨none, some 2, .p (.mv (.c (.int .i64 7)))⟩])] (.one .nil))
                                      .ret)
                                    (.seq
                                      (.ops [
                                          (none, [⟨none, some 34, .p (.fld (.s 4) 1)⟩,
                                          ⟨none, some 35, .r (.ld (.s 34) (some 3))⟩,
                                          ⟨none, some 36, .p (.build [.int .i64 0, .int .i64 0, .string ⟨#[]⟩] [(0, 1), (1, 1), (2, 1)] [])⟩,
                                          ⟨none, some 37, .p (.vf (.eqs true [⟨0, 0⟩, ⟨1, 0⟩, ⟨2, 2⟩]) [.s 35, .s 36])⟩,
                                          ⟨none, some 33, .p (.mv (.s 37))⟩])] (.one .nil))
                                      (.cond (.s 33)
                                        (.seq
                                          (.ops [
                                              (none, [⟨none, some 2, .p (.mv (.c (.int .i64 1)))⟩])] (.one .nil))
                                          .ret)
                                        .skip)))))))))
                      (.ops [
                          (none, [⟨none, some 38, .p (.bin .add (.s 16) (.c (.int .i64 1)))⟩,
                          ⟨none, some 16, .p (.mv (.s 38))⟩])] (.one .nil))))))))
          (.seq
            (.ops [
                (none, [⟨none, some 2, .p (.mv (.c (.int .i64 0)))⟩])] (.one .nil))
            .ret)))))
theorem cfn100 : cfn Tryz.prog 100 = some ⟨39, 6, d100.erase, [(.s 2, none)]⟩ := by kernel_rfl
theorem ok100 : d100.ok 39 6 = true := by kernel_rfl
noncomputable def F100 (a0 : Value) (H : Heap) (nx : Nat) (k : EP) : Prop :=
  dBox a0 fun tc_1 => wNew (.cells tc_1 0) .ptr H nx fun t1_2 H1 nx1 =>
  wFld t1_2 1 fun t5_3 =>
  wLd t5_3 none H1 fun t6_4 =>
  wCall Tryz.prog 69 [t6_4] H1 nx1 fun t7_5 H2 nx2 =>
  wUn .not t7_5 fun t8_6 =>
  wIf t8_6 (
    forceV (.int .i64 7) fun tv_7 => k tv_7 H2 nx2) (
    wFld t1_2 2 fun t9_8 =>
    wLd t9_8 none H2 fun t10_9 =>
    wLen t10_9 0 H2 fun t11_10 =>
    wBin .gtr t11_10 (.int .i64 6) fun t12_11 =>
    wIf t12_11 (
      forceV (.int .i64 12) fun tv_12 => k tv_12 H2 nx2) (
      wFld t1_2 2 fun t13_13 =>
      wLd t13_13 none H2 fun t14_14 =>
      wLen t14_14 0 H2 fun t15_15 =>
      wLoop (fun tih_16 tL_17 H3 nx3 =>
        wBin .lss (tL_17.getD 0 undef) t15_15 fun t17_18 =>
        wIf t17_18 (
          wJoin (fun tj_19 =>
            wIdx t14_14 (tL_17.getD 0 undef) none 4 fun t18_21 =>
            wLd t18_21 (some 4) H3 fun t19_22 =>
            wNew (.cells [.string ⟨#[]⟩, .int .i64 0, .int .i64 0, .string ⟨#[]⟩] 0) .ptr H3 nx3 fun t4_23 H5 nx5 =>
            wSt t4_23 t19_22 4 H5 fun H6 =>
            wFld t4_23 0 fun t21_24 =>
            wLd t21_24 none H6 fun t22_25 =>
            wBin .eql t22_25 (.string ⟨#[]⟩) fun t23_26 =>
            wIf t23_26 (
              wFld t4_23 1 fun t24_27 =>
              wLd t24_27 (some 3) H6 fun t25_28 =>
              wCall Tryz.prog 88 [t25_28] H6 nx5 fun t26_29 H7 nx7 =>
              wUn .not t26_29 fun t27_30 =>
              wIf t27_30 (
                forceV (.int .i64 4) fun tv_31 => k tv_31 H7 nx7) (
                tj_19 [] H7 nx7)) (
              wFld t4_23 0 fun t29_32 =>
              wLd t29_32 none H6 fun t30_33 =>
              wCall Tryz.prog 69 [t30_33] H6 nx5 fun t31_34 H8 nx8 =>
              wUn .not t31_34 fun t32_35 =>
              wIf t32_35 (
                forceV (.int .i64 7) fun tv_36 => k tv_36 H8 nx8) (
                wFld t4_23 1 fun t34_37 =>
                wLd t34_37 (some 3) H8 fun t35_38 =>
                wBuild [.int .i64 0, .int .i64 0, .string ⟨#[]⟩] [(0, 1), (1, 1), (2, 1)] [] fun t36_39 =>
                wVf (.eqs true [⟨0, 0⟩, ⟨1, 0⟩, ⟨2, 2⟩]) [t35_38, t36_39] fun t37_40 =>
                wIf t37_40 (
                  forceV (.int .i64 1) fun tv_41 => k tv_41 H8 nx8) (
                  tj_19 [] H8 nx8)))) (fun tL_20 H4 nx4 =>
            wBin .add (tL_17.getD 0 undef) (.int .i64 1) fun t38_42 =>
            tih_16 [t38_42] H4 nx4)) (
          forceV (.int .i64 0) fun tv_43 => k tv_43 H3 nx3)) [(.int .i64 0)] H2 nx2))
theorem eq100 (a0 : Value) (H : Heap) (nx : Nat) (k : EP) : wBody Tryz.prog 39 6 d100 [(.s 2, none)] [a0] H nx k = F100 a0 H nx k := by kernel_rfl
theorem spec100 {a0 : Value} {H : Heap} {nx : Nat} {k : EP} (h : F100 a0 H nx k) : Ans Tryz.prog 100 [a0] H nx k :=
  spec_of_body mixed namesOK cfn100 ok100 (by simp) ((eq100 a0 H nx k).symm ▸ h)

/-! 71: ordinal/ast.checkItems -/
def d71 : D :=
  (.seq
    (.ops [
        (none, [⟨none, some 1, .a (.box (.s 0))⟩,
        ⟨none, some 2, .p (.mv (.c (.int .i64 0)))⟩])] (.one .nil))
    (.seq
      (.seq
        (.ops [
            (none, [⟨none, some 8, .p (.fld (.s 1) 0)⟩,
            ⟨none, some 9, .r (.ld (.s 8) none)⟩,
            ⟨none, some 10, .r (.len (.s 9) 0)⟩,
            ⟨none, some 11, .p (.bin .eql (.s 10) (.c (.int .i64 0)))⟩])] (.one .nil))
        (.cond (.s 11)
          (.seq
            (.ops [
                (none, [⟨none, some 2, .p (.mv (.c (.int .i64 10)))⟩])] (.one .nil))
            .ret)
          .skip))
      (.seq
        (.join [21] [12, 13, 14, 15, 16, 17, 18, 19, 20]
          (.ops [
              (none, [⟨none, some 12, .p (.fld (.s 1) 0)⟩,
              ⟨none, some 13, .r (.ld (.s 12) none)⟩,
              ⟨none, some 14, .r (.len (.s 13) 0)⟩,
              ⟨none, some 15, .p (.bin .gtr (.s 14) (.c (.int .i64 8)))⟩,
              ⟨none, some 16, .p (.mv (.s 15))⟩]),
              (some (16, false), [⟨none, some 17, .p (.fld (.s 1) 1)⟩,
              ⟨none, some 18, .r (.ld (.s 17) none)⟩,
              ⟨none, some 19, .r (.len (.s 18) 0)⟩,
              ⟨none, some 20, .p (.bin .gtr (.s 19) (.c (.int .i64 8)))⟩]),
              (none, [⟨none, some 21, .p (.pick (.s 16) (.c (.bool true)) (.s 20))⟩])] (.one (.tst (.one .nil) (.one .nil))))
          (.cond (.s 21)
            (.seq
              (.ops [
                  (none, [⟨none, some 2, .p (.mv (.c (.int .i64 12)))⟩])] (.one .nil))
              .ret)
            .skip))
        (.seq
          (.seq
            (.ops [
                (none, [⟨none, some 22, .p (.fld (.s 1) 0)⟩,
                ⟨none, some 23, .r (.ld (.s 22) none)⟩,
                ⟨none, some 24, .r (.len (.s 23) 0)⟩,
                ⟨none, some 25, .p (.mv (.c (.int .i64 0)))⟩])] (.one .nil))
            (.block 0
              (.loop [25] [2, 4, 5, 26, 27, 28, 29, 30, 31, 32, 33, 34]
                (.seq
                  (.ops [
                      (none, [⟨none, some 26, .p (.bin .lss (.s 25) (.s 24))⟩])] (.one .nil))
                  (.seq
                    (.cond (.s 26)
                      .skip
                      (.exit 0))
                    (.seq
                      (.block 1
                        (.seq
                          (.ops [
                              (none, [⟨none, some 27, .p (.idx (.s 23) (.s 25) none 3)⟩,
                              ⟨none, some 28, .r (.ld (.s 27) (some 3))⟩,
                              ⟨none, some 4, .a (.alloc [.bool false, .string ⟨#[]⟩, .slice none 0 0])⟩,
                              ⟨none, none, .e (.st (.s 4) (.s 28) 3)⟩])] (.one .nil))
                          (.seq
                            (.ops [
                                (none, [⟨none, some 29, .r (.ld (.s 4) (some 3))⟩,
                                ⟨none, some 30, .e (.call (.c (.func (.func 100) ⟨[]⟩ ⟨[]⟩)) [.s 29])⟩,
                                ⟨none, some 5, .p (.mv (.s 30))⟩])] (.one .nil))
                            (.seq
                              (.ops [
                                  (none, [⟨none, some 31, .p (.mv (.s 5))⟩,
                                  ⟨none, some 32, .p (.bin .neq (.s 31) (.c (.int .i64 0)))⟩])] (.one .nil))
                              (.cond (.s 32)
                                (.seq
                                  (.ops [
                                      (none, [⟨none, some 33, .p (.mv (.s 5))⟩,
                                      ⟨none, some 2, .p (.mv (.s 33))⟩])] (.one .nil))
                                  .ret)
                                .skip)))))
                      (.ops [
                          (none, [⟨none, some 34, .p (.bin .add (.s 25) (.c (.int .i64 1)))⟩,
                          ⟨none, some 25, .p (.mv (.s 34))⟩])] (.one .nil))))))))
          (.seq
            (.seq
              (.ops [
                  (none, [⟨none, some 35, .p (.fld (.s 1) 1)⟩,
                  ⟨none, some 36, .r (.ld (.s 35) none)⟩,
                  ⟨none, some 37, .r (.len (.s 36) 0)⟩,
                  ⟨none, some 38, .p (.mv (.c (.int .i64 0)))⟩])] (.one .nil))
              (.block 2
                (.loop [38] [2, 7, 39, 40, 41, 42, 43, 44, 45, 46, 47, 48, 49, 50, 51, 52, 53, 54, 55, 56, 57, 58, 59, 60, 61]
                  (.seq
                    (.ops [
                        (none, [⟨none, some 39, .p (.bin .lss (.s 38) (.s 37))⟩])] (.one .nil))
                    (.seq
                      (.cond (.s 39)
                        .skip
                        (.exit 2))
                      (.seq
                        (.block 3
                          (.seq
                            (.ops [
                                (none, [⟨none, some 40, .p (.idx (.s 36) (.s 38) none 5)⟩,
                                ⟨none, some 41, .r (.ld (.s 40) (some 5))⟩,
                                ⟨none, some 7, .a (.alloc [.string ⟨#[]⟩, .int .i64 0, .int .i64 0, .int .i64 0, .string ⟨#[]⟩])⟩,
                                ⟨none, none, .e (.st (.s 7) (.s 41) 5)⟩])] (.one .nil))
                            (.block 4
                              (.seq
                                (.ops [
                                    (none, [⟨none, some 43, .p (.fld (.s 7) 0)⟩,
                                    ⟨none, some 44, .r (.ld (.s 43) none)⟩,
                                    ⟨none, some 45, .e (.call (.c (.func (.func 69) ⟨[]⟩ ⟨[]⟩)) [.s 44])⟩,
                                    ⟨none, some 46, .p (.un .not (.s 45))⟩,
                                    ⟨none, some 42, .p (.mv (.s 46))⟩])] (.one .nil))
                                (.cond (.s 42)
                                  (.seq
                                    (.ops [
                                        (none, [⟨none, some 2, .p (.mv (.c (.int .i64 7)))⟩])] (.one .nil))
                                    .ret)
                                  (.join [47] [48, 49, 50, 51, 52, 53, 54, 55]
                                    (.ops [
                                        (none, [⟨none, some 48, .p (.fld (.s 7) 1)⟩,
                                        ⟨none, some 49, .r (.ld (.s 48) none)⟩,
                                        ⟨none, some 50, .p (.bin .lss (.s 49) (.c (.int .i64 0)))⟩,
                                        ⟨none, some 51, .p (.mv (.s 50))⟩]),
                                        (some (51, false), [⟨none, some 52, .p (.fld (.s 7) 1)⟩,
                                        ⟨none, some 53, .r (.ld (.s 52) none)⟩,
                                        ⟨none, some 54, .p (.bin .gtr (.s 53) (.c (.int .i64 5)))⟩]),
                                        (none, [⟨none, some 55, .p (.pick (.s 51) (.c (.bool true)) (.s 54))⟩,
                                        ⟨none, some 47, .p (.mv (.s 55))⟩])] (.one (.tst (.one .nil) (.one .nil))))
                                    (.cond (.s 47)
                                      (.seq
                                        (.ops [
                                            (none, [⟨none, some 2, .p (.mv (.c (.int .i64 2)))⟩])] (.one .nil))
                                        .ret)
                                      (.seq
                                        (.ops [
                                            (none, [⟨none, some 57, .p (.fld (.s 7) 2)⟩,
                                            ⟨none, some 58, .r (.ld (.s 57) (some 3))⟩,
                                            ⟨none, some 59, .e (.call (.c (.func (.func 88) ⟨[]⟩ ⟨[]⟩)) [.s 58])⟩,
                                            ⟨none, some 60, .p (.un .not (.s 59))⟩,
                                            ⟨none, some 56, .p (.mv (.s 60))⟩])] (.one .nil))
                                        (.cond (.s 56)
                                          (.seq
                                            (.ops [
                                                (none, [⟨none, some 2, .p (.mv (.c (.int .i64 4)))⟩])] (.one .nil))
                                            .ret)
                                          .skip)))))))))
                        (.ops [
                            (none, [⟨none, some 61, .p (.bin .add (.s 38) (.c (.int .i64 1)))⟩,
                            ⟨none, some 38, .p (.mv (.s 61))⟩])] (.one .nil))))))))
            (.seq
              (.ops [
                  (none, [⟨none, some 2, .p (.mv (.c (.int .i64 0)))⟩])] (.one .nil))
              .ret))))))
theorem cfn71 : cfn Tryz.prog 71 = some ⟨62, 6, d71.erase, [(.s 2, none)]⟩ := by kernel_rfl
theorem ok71 : d71.ok 62 6 = true := by kernel_rfl
noncomputable def F71 (a0 : Value) (H : Heap) (nx : Nat) (k : EP) : Prop :=
  dBox a0 fun tc_1 => wNew (.cells tc_1 0) .ptr H nx fun t1_2 H1 nx1 =>
  wFld t1_2 0 fun t8_3 =>
  wLd t8_3 none H1 fun t9_4 =>
  wLen t9_4 0 H1 fun t10_5 =>
  wBin .eql t10_5 (.int .i64 0) fun t11_6 =>
  wIf t11_6 (
    forceV (.int .i64 10) fun tv_7 => k tv_7 H1 nx1) (
    wJoin (fun tj_8 =>
      wFld t1_2 0 fun t12_10 =>
      wLd t12_10 none H1 fun t13_11 =>
      wLen t13_11 0 H1 fun t14_12 =>
      wBin .gtr t14_12 (.int .i64 8) fun t15_13 =>
      wGuard false t15_13 (
        wFld t1_2 1 fun t17_14 =>
        wLd t17_14 none H1 fun t18_15 =>
        wLen t18_15 0 H1 fun t19_16 =>
        wBin .gtr t19_16 (.int .i64 8) fun t20_17 =>
        tj_8 [t20_17] H1 nx1) (
        tj_8 [(.bool true)] H1 nx1)) (fun tL_9 H2 nx2 =>
      wIf (tL_9.getD 0 undef) (
        forceV (.int .i64 12) fun tv_18 => k tv_18 H2 nx2) (
        wFld t1_2 0 fun t22_19 =>
        wLd t22_19 none H2 fun t23_20 =>
        wLen t23_20 0 H2 fun t24_21 =>
        wLoop (fun tih_22 tL_23 H3 nx3 =>
          wBin .lss (tL_23.getD 0 undef) t24_21 fun t26_24 =>
          wIf t26_24 (
            wIdx t23_20 (tL_23.getD 0 undef) none 3 fun t27_25 =>
            wLd t27_25 (some 3) H3 fun t28_26 =>
            wNew (.cells [.bool false, .string ⟨#[]⟩, .slice none 0 0] 0) .ptr H3 nx3 fun t4_27 H4 nx4 =>
            wSt t4_27 t28_26 3 H4 fun H5 =>
            wLd t4_27 (some 3) H5 fun t29_28 =>
            wCall Tryz.prog 100 [t29_28] H5 nx4 fun t30_29 H6 nx6 =>
            wBin .neq t30_29 (.int .i64 0) fun t32_30 =>
            wIf t32_30 (
              forceV t30_29 fun tv_31 => k tv_31 H6 nx6) (
              wBin .add (tL_23.getD 0 undef) (.int .i64 1) fun t34_32 =>
              tih_22 [t34_32] H6 nx6)) (
            wFld t1_2 1 fun t35_33 =>
            wLd t35_33 none H3 fun t36_34 =>
            wLen t36_34 0 H3 fun t37_35 =>
            wLoop (fun tih_36 tL_37 H7 nx7 =>
              wBin .lss (tL_37.getD 0 undef) t37_35 fun t39_38 =>
              wIf t39_38 (
                wIdx t36_34 (tL_37.getD 0 undef) none 5 fun t40_39 =>
                wLd t40_39 (some 5) H7 fun t41_40 =>
                wNew (.cells [.string ⟨#[]⟩, .int .i64 0, .int .i64 0, .int .i64 0, .string ⟨#[]⟩] 0) .ptr H7 nx7 fun t7_41 H8 nx8 =>
                wSt t7_41 t41_40 5 H8 fun H9 =>
                wFld t7_41 0 fun t43_42 =>
                wLd t43_42 none H9 fun t44_43 =>
                wCall Tryz.prog 69 [t44_43] H9 nx8 fun t45_44 H10 nx10 =>
                wUn .not t45_44 fun t46_45 =>
                wIf t46_45 (
                  forceV (.int .i64 7) fun tv_46 => k tv_46 H10 nx10) (
                  wJoin (fun tj_47 =>
                    wFld t7_41 1 fun t48_49 =>
                    wLd t48_49 none H10 fun t49_50 =>
                    wBin .lss t49_50 (.int .i64 0) fun t50_51 =>
                    wGuard false t50_51 (
                      wFld t7_41 1 fun t52_52 =>
                      wLd t52_52 none H10 fun t53_53 =>
                      wBin .gtr t53_53 (.int .i64 5) fun t54_54 =>
                      tj_47 [t54_54] H10 nx10) (
                      tj_47 [(.bool true)] H10 nx10)) (fun tL_48 H11 nx11 =>
                    wIf (tL_48.getD 0 undef) (
                      forceV (.int .i64 2) fun tv_55 => k tv_55 H11 nx11) (
                      wFld t7_41 2 fun t57_56 =>
                      wLd t57_56 (some 3) H11 fun t58_57 =>
                      wCall Tryz.prog 88 [t58_57] H11 nx11 fun t59_58 H12 nx12 =>
                      wUn .not t59_58 fun t60_59 =>
                      wIf t60_59 (
                        forceV (.int .i64 4) fun tv_60 => k tv_60 H12 nx12) (
                        wBin .add (tL_37.getD 0 undef) (.int .i64 1) fun t61_61 =>
                        tih_36 [t61_61] H12 nx12))))) (
                forceV (.int .i64 0) fun tv_62 => k tv_62 H7 nx7)) [(.int .i64 0)] H3 nx3)) [(.int .i64 0)] H2 nx2)))
theorem eq71 (a0 : Value) (H : Heap) (nx : Nat) (k : EP) : wBody Tryz.prog 62 6 d71 [(.s 2, none)] [a0] H nx k = F71 a0 H nx k := by kernel_rfl
theorem spec71 {a0 : Value} {H : Heap} {nx : Nat} {k : EP} (h : F71 a0 H nx k) : Ans Tryz.prog 71 [a0] H nx k :=
  spec_of_body mixed namesOK cfn71 ok71 (by simp) ((eq71 a0 H nx k).symm ▸ h)

/-! 47: ordinal/ast.Vars -/
def d47 : D :=
  (.seq
    (.ops [
        (none, [⟨none, some 1, .a (.box (.s 0))⟩,
        ⟨none, some 2, .p (.mv (.c (.slice none 0 0)))⟩])] (.one .nil))
    (.seq
      (.ops [
          (none, [⟨none, some 3, .a (.alloc [.slice none 0 0])⟩])] (.one .nil))
      (.seq
        (.ops [
            (none, [⟨none, some 12, .a (.mmap none)⟩,
            ⟨none, none, .e (.upd .string (.s 12) (.c (.string ⟨#[]⟩)) (.c (.bool true)))⟩,
            ⟨none, some 13, .p (.mv (.s 12))⟩,
            ⟨none, some 4, .a (.alloc [.map none])⟩,
            ⟨none, none, .e (.st (.s 4) (.s 13) 1)⟩])] (.one .nil))
        (.seq
          (.ops [
              (none, [⟨none, some 14, .p (.mkf (.func 76) [] [.s 4, .s 3])⟩,
              ⟨none, some 5, .p (.mv (.s 14))⟩])] (.one .nil))
          (.seq
            (.seq
              (.ops [
                  (none, [⟨none, some 15, .p (.fld (.s 1) 0)⟩,
                  ⟨none, some 16, .r (.ld (.s 15) none)⟩,
                  ⟨none, some 17, .r (.len (.s 16) 0)⟩,
                  ⟨none, some 18, .p (.mv (.c (.int .i64 0)))⟩])] (.one .nil))
              (.block 0
                (.loop [18] [7, 9, 19, 20, 21, 22, 23, 24, 25, 26, 27, 28, 29, 30, 31, 32, 33, 34]
                  (.seq
                    (.ops [
                        (none, [⟨none, some 19, .p (.bin .lss (.s 18) (.s 17))⟩])] (.one .nil))
                    (.seq
                      (.cond (.s 19)
                        .skip
                        (.exit 0))
                      (.seq
                        (.block 1
                          (.seq
                            (.ops [
                                (none, [⟨none, some 20, .p (.idx (.s 16) (.s 18) none 3)⟩,
                                ⟨none, some 21, .r (.ld (.s 20) (some 3))⟩,
                                ⟨none, some 7, .a (.alloc [.bool false, .string ⟨#[]⟩, .slice none 0 0])⟩,
                                ⟨none, none, .e (.st (.s 7) (.s 21) 3)⟩])] (.one .nil))
                            (.seq
                              (.ops [
                                  (none, [⟨none, some 22, .p (.fld (.s 7) 2)⟩,
                                  ⟨none, some 23, .r (.ld (.s 22) none)⟩,
                                  ⟨none, some 24, .r (.len (.s 23) 0)⟩,
                                  ⟨none, some 25, .p (.mv (.c (.int .i64 0)))⟩])] (.one .nil))
                              (.block 2
                                (.loop [25] [9, 26, 27, 28, 29, 30, 31, 32, 33]
                                  (.seq
                                    (.ops [
                                        (none, [⟨none, some 26, .p (.bin .lss (.s 25) (.s 24))⟩])] (.one .nil))
                                    (.seq
                                      (.cond (.s 26)
                                        .skip
                                        (.exit 2))
                                      (.seq
                                        (.block 3
                                          (.seq
                                            (.ops [
                                                (none, [⟨none, some 27, .p (.idx (.s 23) (.s 25) none 4)⟩,
                                                ⟨none, some 28, .r (.ld (.s 27) (some 4))⟩,
                                                ⟨none, some 9, .a (.alloc [.string ⟨#[]⟩, .int .i64 0, .int .i64 0, .string ⟨#[]⟩])⟩,
                                                ⟨none, none, .e (.st (.s 9) (.s 28) 4)⟩])] (.one .nil))
                                            (.ops [
                                                (none, [⟨none, some 29, .p (.mv (.s 5))⟩,
                                                ⟨none, some 30, .p (.fld (.s 9) 0)⟩,
                                                ⟨none, some 31, .r (.ld (.s 30) none)⟩,
                                                ⟨none, some 32, .e (.call (.s 29) [.s 31])⟩])] (.one .nil))))
                                        (.ops [
                                            (none, [⟨none, some 33, .p (.bin .add (.s 25) (.c (.int .i64 1)))⟩,
                                            ⟨none, some 25, .p (.mv (.s 33))⟩])] (.one .nil))))))))))
                        (.ops [
                            (none, [⟨none, some 34, .p (.bin .add (.s 18) (.c (.int .i64 1)))⟩,
                            ⟨none, some 18, .p (.mv (.s 34))⟩])] (.one .nil))))))))
            (.seq
              (.seq
                (.ops [
                    (none, [⟨none, some 35, .p (.fld (.s 1) 1)⟩,
                    ⟨none, some 36, .r (.ld (.s 35) none)⟩,
                    ⟨none, some 37, .r (.len (.s 36) 0)⟩,
                    ⟨none, some 38, .p (.mv (.c (.int .i64 0)))⟩])] (.one .nil))
                (.block 4
                  (.loop [38] [11, 39, 40, 41, 42, 43, 44, 45, 46]
                    (.seq
                      (.ops [
                          (none, [⟨none, some 39, .p (.bin .lss (.s 38) (.s 37))⟩])] (.one .nil))
                      (.seq
                        (.cond (.s 39)
                          .skip
                          (.exit 4))
                        (.seq
                          (.block 5
                            (.seq
                              (.ops [
                                  (none, [⟨none, some 40, .p (.idx (.s 36) (.s 38) none 5)⟩,
                                  ⟨none, some 41, .r (.ld (.s 40) (some 5))⟩,
                                  ⟨none, some 11, .a (.alloc [.string ⟨#[]⟩, .int .i64 0, .int .i64 0, .int .i64 0, .string ⟨#[]⟩])⟩,
                                  ⟨none, none, .e (.st (.s 11) (.s 41) 5)⟩])] (.one .nil))
                              (.ops [
                                  (none, [⟨none, some 42, .p (.mv (.s 5))⟩,
                                  ⟨none, some 43, .p (.fld (.s 11) 0)⟩,
                                  ⟨none, some 44, .r (.ld (.s 43) none)⟩,
                                  ⟨none, some 45, .e (.call (.s 42) [.s 44])⟩])] (.one .nil))))
                          (.ops [
                              (none, [⟨none, some 46, .p (.bin .add (.s 38) (.c (.int .i64 1)))⟩,
                              ⟨none, some 38, .p (.mv (.s 46))⟩])] (.one .nil))))))))
              (.seq
                (.ops [
                    (none, [⟨none, some 47, .r (.ld (.s 3) none)⟩,
                    ⟨none, some 2, .p (.mv (.s 47))⟩])] (.one .nil))
                .ret)))))))
theorem cfn47 : cfn Tryz.prog 47 = some ⟨48, 6, d47.erase, [(.s 2, none)]⟩ := by kernel_rfl
theorem ok47 : d47.ok 48 6 = true := by kernel_rfl
noncomputable def F47 (a0 : Value) (H : Heap) (nx : Nat) (k : EP) : Prop :=
  dBox a0 fun tc_1 => wNew (.cells tc_1 0) .ptr H nx fun t1_2 H1 nx1 =>
  wNew (.cells [.slice none 0 0] 0) .ptr H1 nx1 fun t3_3 H2 nx2 =>
  dMmap none <| wNew (.map [] 0) .map H2 nx2 fun t12_4 H3 nx3 =>
  wUpd .string t12_4 (.string ⟨#[]⟩) (.bool true) H3 nx3 fun u_5 H4 nx4 =>
  wNew (.cells [.map none] 0) .ptr H4 nx4 fun t4_6 H5 nx5 =>
  wSt t4_6 t12_4 1 H5 fun H6 =>
  wFld t1_2 0 fun t15_7 =>
  wLd t15_7 none H6 fun t16_8 =>
  wLen t16_8 0 H6 fun t17_9 =>
  wLoop (fun tih_10 tL_11 H7 nx7 =>
    wBin .lss (tL_11.getD 0 undef) t17_9 fun t19_12 =>
    wIf t19_12 (
      wIdx t16_8 (tL_11.getD 0 undef) none 3 fun t20_13 =>
      wLd t20_13 (some 3) H7 fun t21_14 =>
      wNew (.cells [.bool false, .string ⟨#[]⟩, .slice none 0 0] 0) .ptr H7 nx7 fun t7_15 H8 nx8 =>
      wSt t7_15 t21_14 3 H8 fun H9 =>
      wFld t7_15 2 fun t22_16 =>
      wLd t22_16 none H9 fun t23_17 =>
      wLen t23_17 0 H9 fun t24_18 =>
      wLoop (fun tih_19 tL_20 H10 nx10 =>
        wBin .lss (tL_20.getD 0 undef) t24_18 fun t26_21 =>
        wIf t26_21 (
          wIdx t23_17 (tL_20.getD 0 undef) none 4 fun t27_22 =>
          wLd t27_22 (some 4) H10 fun t28_23 =>
          wNew (.cells [.string ⟨#[]⟩, .int .i64 0, .int .i64 0, .string ⟨#[]⟩] 0) .ptr H10 nx10 fun t9_24 H11 nx11 =>
          wSt t9_24 t28_23 4 H11 fun H12 =>
          wFld t9_24 0 fun t30_25 =>
          wLd t30_25 none H12 fun t31_26 =>
          wCallV Tryz.prog (.func (.func 76) ⟨[]⟩ ⟨[t4_6, t3_3]⟩) [t31_26] H12 nx11 fun t32_27 H13 nx13 =>
          wBin .add (tL_20.getD 0 undef) (.int .i64 1) fun t33_28 =>
          tih_19 [t33_28] H13 nx13) (
          wBin .add (tL_11.getD 0 undef) (.int .i64 1) fun t34_29 =>
          tih_10 [t34_29] H10 nx10)) [(.int .i64 0)] H9 nx8) (
      wFld t1_2 1 fun t35_30 =>
      wLd t35_30 none H7 fun t36_31 =>
      wLen t36_31 0 H7 fun t37_32 =>
      wLoop (fun tih_33 tL_34 H14 nx14 =>
        wBin .lss (tL_34.getD 0 undef) t37_32 fun t39_35 =>
        wIf t39_35 (
          wIdx t36_31 (tL_34.getD 0 undef) none 5 fun t40_36 =>
          wLd t40_36 (some 5) H14 fun t41_37 =>
          wNew (.cells [.string ⟨#[]⟩, .int .i64 0, .int .i64 0, .int .i64 0, .string ⟨#[]⟩] 0) .ptr H14 nx14 fun t11_38 H15 nx15 =>
          wSt t11_38 t41_37 5 H15 fun H16 =>
          wFld t11_38 0 fun t43_39 =>
          wLd t43_39 none H16 fun t44_40 =>
          wCallV Tryz.prog (.func (.func 76) ⟨[]⟩ ⟨[t4_6, t3_3]⟩) [t44_40] H16 nx15 fun t45_41 H17 nx17 =>
          wBin .add (tL_34.getD 0 undef) (.int .i64 1) fun t46_42 =>
          tih_33 [t46_42] H17 nx17) (
          wLd t3_3 none H14 fun t47_43 =>
          forceV t47_43 fun tv_44 => k tv_44 H14 nx14)) [(.int .i64 0)] H7 nx7)) [(.int .i64 0)] H6 nx5
theorem eq47 (a0 : Value) (H : Heap) (nx : Nat) (k : EP) : wBody Tryz.prog 48 6 d47 [(.s 2, none)] [a0] H nx k = F47 a0 H nx k := by kernel_rfl
theorem spec47 {a0 : Value} {H : Heap} {nx : Nat} {k : EP} (h : F47 a0 H nx k) : Ans Tryz.prog 47 [a0] H nx k :=
  spec_of_body mixed namesOK cfn47 ok47 (by simp) ((eq47 a0 H nx k).symm ▸ h)

/-! 76: ordinal/ast.Vars$1 -/
def d76 : D :=
  (.seq
    (.ops [
        (none, [⟨none, some 4, .r (.ld (.s 1) none)⟩,
        ⟨none, some 5, .p (.mv (.s 0))⟩,
        ⟨none, some 6, .r (.lk .string (.bool false) (.s 4) (.s 5) false)⟩,
        ⟨none, some 7, .p (.un .not (.s 6))⟩])] (.one .nil))
    (.cond (.s 7)
      (.seq
        (.ops [
            (none, [⟨none, some 8, .r (.ld (.s 1) none)⟩,
            ⟨none, some 9, .p (.mv (.s 0))⟩,
            ⟨none, none, .e (.upd .string (.s 8) (.s 9) (.c (.bool true)))⟩])] (.one .nil))
        (.ops [
            (none, [⟨none, some 10, .r (.ld (.s 2) none)⟩,
            ⟨none, some 11, .p (.mv (.s 0))⟩,
            ⟨none, some 12, .a (.bsl 1 1 [.string ⟨#[]⟩] [(0, .s 11)])⟩,
            ⟨none, some 13, .e (.app (.s 10) (.s 12) 1 16)⟩,
            ⟨none, none, .e (.st (.s 2) (.s 13) 1)⟩])] (.one .nil)))
      .skip))
theorem cfn76 : cfn Tryz.prog 76 = some ⟨14, 4, d76.erase, []⟩ := by kernel_rfl
theorem ok76 : d76.ok 14 4 = true := by kernel_rfl
noncomputable def F76 (a0 a1 a2 : Value) (H : Heap) (nx : Nat) (k : EP) : Prop :=
  wLd a1 none H fun t4_1 =>
  wLk .string (.bool false) t4_1 a0 false H fun t6_2 =>
  wUn .not t6_2 fun t7_3 =>
  wIf t7_3 (
    wLd a1 none H fun t8_4 =>
    wUpd .string t8_4 a0 (.bool true) H nx fun u_5 H1 nx1 =>
    wLd a2 none H1 fun t10_6 =>
    dBsl 1 1 [.string ⟨#[]⟩] [(0, a0)] fun tc_7 => wNew (.cells tc_7 0) (.slice 1 1) H1 nx1 fun t12_8 H2 nx2 =>
    wApp t10_6 t12_8 1 16 H2 nx2 fun t13_9 H3 nx3 =>
    wSt a2 t13_9 1 H3 fun H4 =>
    forceV (.tuple ⟨[]⟩) fun tv_10 => k tv_10 H4 nx3) (
    forceV (.tuple ⟨[]⟩) fun tv_11 => k tv_11 H nx)
theorem eq76 (a0 a1 a2 : Value) (H : Heap) (nx : Nat) (k : EP) : wBody Tryz.prog 14 4 d76 [] [a0, a1, a2] H nx k = F76 a0 a1 a2 H nx k := by kernel_rfl
theorem spec76 {a0 a1 a2 : Value} {H : Heap} {nx : Nat} {k : EP} (h : F76 a0 a1 a2 H nx k) : Ans Tryz.prog 76 [a0, a1, a2] H nx k :=
  spec_of_body mixed namesOK cfn76 ok76 (by simp) ((eq76 a0 a1 a2 H nx k).symm ▸ h)

/-! 72: ordinal/ast.positive -/
def d72 : D :=
  (.seq
    (.ops [
        (none, [⟨none, some 1, .a (.box (.s 0))⟩,
        ⟨none, some 2, .p (.mv (.c (.map none)))⟩])] (.one .nil))
    (.seq
      (.ops [
          (none, [⟨none, some 8, .a (.mmap none)⟩,
          ⟨none, some 3, .p (.mv (.s 8))⟩])] (.one .nil))
      (.seq
        (.seq
          (.ops [
              (none, [⟨none, some 9, .p (.fld (.s 1) 0)⟩,
              ⟨none, some 10, .r (.ld (.s 9) none)⟩,
              ⟨none, some 11, .r (.len (.s 10) 0)⟩,
              ⟨none, some 12, .p (.mv (.c (.int .i64 0)))⟩])] (.one .nil))
          (.block 0
            (.loop [12] [5, 7, 13, 14, 15, 16, 17, 18, 19, 20, 21, 22, 23, 24, 25, 26, 27, 28, 29, 30, 31, 32, 33, 34, 35]
              (.seq
                (.ops [
                    (none, [⟨none, some 13, .p (.bin .lss (.s 12) (.s 11))⟩])] (.one .nil))
                (.seq
                  (.cond (.s 13)
                    .skip
                    (.exit 0))
                  (.seq
                    (.block 1
                      (.seq
                        (.ops [
                            (none, [⟨none, some 14, .p (.idx (.s 10) (.s 12) none 3)⟩,
                            ⟨none, some 15, .r (.ld (.s 14) (some 3))⟩,
                            ⟨none, some 5, .a (.alloc [.bool false, .string ⟨#[]⟩, .slice none 0 0])⟩,
                            ⟨none, none, .e (.st (.s 5) (.s 15) 3)⟩])] (.one .nil))
                        (.seq
                          (.ops [
                              (none, [⟨none, some 16, .p (.fld (.s 5) 2)⟩,
                              ⟨none, some 17, .r (.ld (.s 16) none)⟩,
                              ⟨none, some 18, .r (.len (.s 17) 0)⟩,
                              ⟨none, some 19, .p (.mv (.c (.int .i64 0)))⟩])] (.one .nil))
                          (.block 2
                            (.loop [19] [7, 20, 21, 22, 23, 24, 25, 26, 27, 28, 29, 30, 31, 32, 33, 34]
                              (.seq
                                (.ops [
                                    (none, [⟨none, some 20, .p (.bin .lss (.s 19) (.s 18))⟩])] (.one .nil))
                                (.seq
                                  (.cond (.s 20)
                                    .skip
                                    (.exit 2))
                                  (.join [] [7, 21, 22, 23, 24, 25, 26, 27, 28, 29, 30, 31, 32, 33]
                                    (.block 3
                                      (.seq
                                        (.ops [
                                            (none, [⟨none, some 21, .p (.idx (.s 17) (.s 19) none 4)⟩,
                                            ⟨none, some 22, .r (.ld (.s 21) (some 4))⟩,
                                            ⟨none, some 7, .a (.alloc [.string ⟨#[]⟩, .int .i64 0, .int .i64 0, .string ⟨#[]⟩])⟩,
                                            ⟨none, none, .e (.st (.s 7) (.s 22) 4)⟩])] (.one .nil))
                                        (.join [30] [23, 24, 25, 26, 27, 28, 29]
                                          (.ops [
                                              (none, [⟨none, some 23, .p (.fld (.s 5) 0)⟩,
                                              ⟨none, some 24, .r (.ld (.s 23) none)⟩,
                                              ⟨none, some 25, .p (.un .not (.s 24))⟩,
                                              ⟨none, some 26, .p (.mv (.s 25))⟩]),
                                              (some (26, true), [⟨none, some 27, .p (.fld (.s 7) 0)⟩,
                                              ⟨none, some 28, .r (.ld (.s 27) none)⟩,
                                              ⟨none, some 29, .p (.bin .neq (.s 28) (.c (.string ⟨#[]⟩)))⟩]),
                                              (none, [⟨none, some 30, .p (.pick (.s 26) (.s 29) (.c (.bool false)))⟩])] (.one (.tst (.one .nil) (.one .nil))))
                                          (.cond (.s 30)
                                            (.ops [
                                                (none, [⟨none, some 31, .p (.mv (.s 3))⟩,
                                                ⟨none, some 32, .p (.fld (.s 7) 0)⟩,
                                                ⟨none, some 33, .r (.ld (.s 32) none)⟩,
                                                ⟨none, none, .e (.upd .string (.s 31) (.s 33) (.c (.bool true)))⟩])] (.one .nil))
                                            .skip))))
                                    (.ops [
                                        (none, [⟨none, some 34, .p (.bin .add (.s 19) (.c (.int .i64 1)))⟩,
                                        ⟨none, some 19, .p (.mv (.s 34))⟩])] (.one .nil))))))))))
                    (.ops [
                        (none, [⟨none, some 35, .p (.bin .add (.s 12) (.c (.int .i64 1)))⟩,
                        ⟨none, some 12, .p (.mv (.s 35))⟩])] (.one .nil))))))))
        (.seq
          (.ops [
              (none, [⟨none, some 36, .p (.mv (.s 3))⟩,
              ⟨none, some 2, .p (.mv (.s 36))⟩])] (.one .nil))
          .ret))))
theorem cfn72 : cfn Tryz.prog 72 = some ⟨37, 6, d72.erase, [(.s 2, none)]⟩ := by kernel_rfl
theorem ok72 : d72.ok 37 6 = true := by kernel_rfl
noncomputable def F72 (a0 : Value) (H : Heap) (nx : Nat) (k : EP) : Prop :=
  dBox a0 fun tc_1 => wNew (.cells tc_1 0) .ptr H nx fun t1_2 H1 nx1 =>
  dMmap none <| wNew (.map [] 0) .map H1 nx1 fun t8_3 H2 nx2 =>
  wFld t1_2 0 fun t9_4 =>
  wLd t9_4 none H2 fun t10_5 =>
  wLen t10_5 0 H2 fun t11_6 =>
  wLoop (fun tih_7 tL_8 H3 nx3 =>
    wBin .lss (tL_8.getD 0 undef) t11_6 fun t13_9 =>
    wIf t13_9 (
      wIdx t10_5 (tL_8.getD 0 undef) none 3 fun t14_10 =>
      wLd t14_10 (some 3) H3 fun t15_11 =>
      wNew (.cells [.bool false, .string ⟨#[]⟩, .slice none 0 0] 0) .ptr H3 nx3 fun t5_12 H4 nx4 =>
      wSt t5_12 t15_11 3 H4 fun H5 =>
      wFld t5_12 2 fun t16_13 =>
      wLd t16_13 none H5 fun t17_14 =>
      wLen t17_14 0 H5 fun t18_15 =>
      wLoop (fun tih_16 tL_17 H6 nx6 =>
        wBin .lss (tL_17.getD 0 undef) t18_15 fun t20_18 =>
        wIf t20_18 (
          wJoin (fun tj_19 =>
            wIdx t17_14 (tL_17.getD 0 undef) none 4 fun t21_21 =>
            wLd t21_21 (some 4) H6 fun t22_22 =>
            wNew (.cells [.string ⟨#[]⟩, .int .i64 0, .int .i64 0, .string ⟨#[]⟩] 0) .ptr H6 nx6 fun t7_23 H8 nx8 =>
            wSt t7_23 t22_22 4 H8 fun H9 =>
            wJoin (fun tj_24 =>
              wFld t5_12 0 fun t23_26 =>
              wLd t23_26 none H9 fun t24_27 =>
              wUn .not t24_27 fun t25_28 =>
              wGuard true t25_28 (
                wFld t7_23 0 fun t27_29 =>
                wLd t27_29 none H9 fun t28_30 =>
                wBin .neq t28_30 (.string ⟨#[]⟩) fun t29_31 =>
                tj_24 [t29_31] H9 nx8) (
                tj_24 [(.bool false)] H9 nx8)) (fun tL_25 H10 nx10 =>
              wIf (tL_25.getD 0 undef) (
                wFld t7_23 0 fun t32_32 =>
                wLd t32_32 none H10 fun t33_33 =>
                wUpd .string t8_3 t33_33 (.bool true) H10 nx10 fun u_34 H11 nx11 =>
                tj_19 [] H11 nx11) (
                tj_19 [] H10 nx10))) (fun tL_20 H7 nx7 =>
            wBin .add (tL_17.getD 0 undef) (.int .i64 1) fun t34_35 =>
            tih_16 [t34_35] H7 nx7)) (
          wBin .add (tL_8.getD 0 undef) (.int .i64 1) fun t35_36 =>
          tih_7 [t35_36] H6 nx6)) [(.int .i64 0)] H5 nx4) (
      forceV t8_3 fun tv_37 => k tv_37 H3 nx3)) [(.int .i64 0)] H2 nx2
theorem eq72 (a0 : Value) (H : Heap) (nx : Nat) (k : EP) : wBody Tryz.prog 37 6 d72 [(.s 2, none)] [a0] H nx k = F72 a0 H nx k := by kernel_rfl
theorem spec72 {a0 : Value} {H : Heap} {nx : Nat} {k : EP} (h : F72 a0 H nx k) : Ans Tryz.prog 72 [a0] H nx k :=
  spec_of_body mixed namesOK cfn72 ok72 (by simp) ((eq72 a0 H nx k).symm ▸ h)

end Go.Proofs.YthbdeaeghipliaaGreatDoor

set_option linter.unusedSimpArgs false
set_option linter.unusedVariables false
set_option linter.unusedSectionVars false
namespace Go.Proofs.YthbdeaeghipliaaGreatDoor
open Go.Clo

theorem value88 (kind int : Int) (s : ByteArray) (H : Heap) (nx : Nat) : Ans Tryz.prog 88 [.agg ⟨[.int .i64 kind, .int .i64 int, .string s]⟩] H nx fun r H' nx' => .bool (valueV kind int s) = r ∧ Ext H nx H' nx' := by
  refine spec88 ?_
  unfold F88
  have hE : Ext H nx (hs H nx (some (.cells [.int .i64 kind, .int .i64 int, .string s] 0))) (nx + 1) := (Ext.refl H nx).new _ (Nat.le_refl _) (by omega)
  by_cases h1 : kind = 1
  · have d1 : decide (kind = 1) = true := by simp [h1]
    simp (disch := first | omega | assumption | exact shr_lt (by assumption) | exact ndiff32 (by assumption) | exact below_lt (by omega) | fail) only [wBin_leq, wBin_eql, wIf_bool, wGuard_true, wFld_eq, wLen_string, wNew_eq, dBox_agg, oneCells, wLd_none, ldP_cells, cellP_one, getH_same, forceV_eq, Option.elim_some, List.getElem?_cons_zero, List.getElem?_cons_succ, Yld.val, if_true, Nat.zero_add, Nat.add_zero, wBin_streq, d1]
    exact ⟨by rw [valueV, if_pos h1]; rfl, hE⟩
  have d1 : decide (kind = 1) = false := by simp [h1]
  by_cases h2 : kind = 2
  · have d2 : decide (kind = 2) = true := by simp [h2]
    by_cases h3 : int = 0
    · have d3 : decide (int = 0) = true := by simp [h3]
      simp (disch := first | omega | assumption | exact shr_lt (by assumption) | exact ndiff32 (by assumption) | exact below_lt (by omega) | fail) only [wBin_leq, wBin_eql, wIf_bool, wGuard_true, wFld_eq, wLen_string, wNew_eq, dBox_agg, oneCells, wLd_none, ldP_cells, cellP_one, getH_same, forceV_eq, Option.elim_some, List.getElem?_cons_zero, List.getElem?_cons_succ, Yld.val, if_true, if_false, Bool.false_eq_true, Nat.zero_add, Nat.add_zero, d1, d2, d3]
      refine ⟨?_, hE⟩
      rw [valueV, if_neg h1, if_pos h2, d3, Bool.true_and]
      congr 2; apply propext; omega
    · have d3 : decide (int = 0) = false := by simp [h3]
      simp (disch := first | omega | assumption | exact shr_lt (by assumption) | exact ndiff32 (by assumption) | exact below_lt (by omega) | fail) only [wBin_leq, wBin_eql, wIf_bool, wGuard_true, wFld_eq, wLen_string, wNew_eq, dBox_agg, oneCells, wLd_none, ldP_cells, cellP_one, getH_same, forceV_eq, Option.elim_some, List.getElem?_cons_zero, List.getElem?_cons_succ, Yld.val, if_true, if_false, Bool.false_eq_true, Nat.zero_add, Nat.add_zero, d1, d2, d3]
      exact ⟨by rw [valueV, if_neg h1, if_pos h2, d3]; rfl, hE⟩
  have d2 : decide (kind = 2) = false := by simp [h2]
  simp (disch := first | omega | assumption | exact shr_lt (by assumption) | exact ndiff32 (by assumption) | exact below_lt (by omega) | fail) only [wBin_leq, wBin_eql, wIf_bool, wGuard_true, wFld_eq, wLen_string, wNew_eq, dBox_agg, oneCells, wLd_none, ldP_cells, cellP_one, getH_same, forceV_eq, Option.elim_some, List.getElem?_cons_zero, List.getElem?_cons_succ, Yld.val, if_true, if_false, Bool.false_eq_true, Nat.zero_add, Nat.add_zero, d1, d2]
  exact ⟨by rw [valueV, if_neg h1, if_neg h2], hE⟩

open Classical in
theorem valid69 (s : ByteArray) (H : Heap) (nx : Nat) (hs : s.size ≤ 1000000) : Ans Tryz.prog 69 [.string s] H nx fun r H' nx' => .bool (nameV s) = r ∧ H = H' ∧ nx = nx' := by
  refine spec69 ?_
  unfold F69
  refine wJoin_rule (fun L H' nx' => (∃ c : Bool, L = [.bool c] ∧ (c = true ↔ s ∈ reserved)) ∧ H = H' ∧ nx = nx') ?_ ?_
  · intro j hj0
    have hj : ∀ (c : Bool) (q : c = true ↔ s ∈ reserved), j [.bool c] H nx := fun c q => hj0 _ _ _ ⟨⟨c, rfl, q⟩, rfl, rfl⟩
    by_cases q0 : s = (⟨#[99, 111, 117, 110, 116]⟩ : ByteArray)
    · have e0 : decide (s = (⟨#[99, 111, 117, 110, 116]⟩ : ByteArray)) = true := by simp [q0]
      simp (disch := first | omega | assumption | exact shr_lt (by assumption) | exact ndiff32 (by assumption) | exact below_lt (by omega) | fail) only [wIf_bool, if_true, wBin_streq, e0]
      exact hj _ ⟨fun _ => by rw [q0]; simp [reserved], fun _ => rfl⟩
    have e0 : decide (s = (⟨#[99, 111, 117, 110, 116]⟩ : ByteArray)) = false := by simp [q0]
    by_cases q1 : s = (⟨#[100, 101, 115, 99]⟩ : ByteArray)
    · have e1 : decide (s = (⟨#[100, 101, 115, 99]⟩ : ByteArray)) = true := by simp [q1]
      simp (disch := first | omega | assumption | exact shr_lt (by assumption) | exact ndiff32 (by assumption) | exact below_lt (by omega) | fail) only [wIf_bool, if_true, if_false, Bool.false_eq_true, wBin_streq, e0, e1]
      exact hj _ ⟨fun _ => by rw [q1]; simp [reserved], fun _ => rfl⟩
    have e1 : decide (s = (⟨#[100, 101, 115, 99]⟩ : ByteArray)) = false := by simp [q1]
    by_cases q2 : s = (⟨#[109, 97, 120]⟩ : ByteArray)
    · have e2 : decide (s = (⟨#[109, 97, 120]⟩ : ByteArray)) = true := by simp [q2]
      simp (disch := first | omega | assumption | exact shr_lt (by assumption) | exact ndiff32 (by assumption) | exact below_lt (by omega) | fail) only [wIf_bool, if_true, if_false, Bool.false_eq_true, wBin_streq, e0, e1, e2]
      exact hj _ ⟨fun _ => by rw [q2]; simp [reserved], fun _ => rfl⟩
    have e2 : decide (s = (⟨#[109, 97, 120]⟩ : ByteArray)) = false := by simp [q2]
    by_cases q3 : s = (⟨#[109, 105, 110]⟩ : ByteArray)
    · have e3 : decide (s = (⟨#[109, 105, 110]⟩ : ByteArray)) = true := by simp [q3]
      simp (disch := first | omega | assumption | exact shr_lt (by assumption) | exact ndiff32 (by assumption) | exact below_lt (by omega) | fail) only [wIf_bool, if_true, if_false, Bool.false_eq_true, wBin_streq, e0, e1, e2, e3]
      exact hj _ ⟨fun _ => by rw [q3]; simp [reserved], fun _ => rfl⟩
    have e3 : decide (s = (⟨#[109, 105, 110]⟩ : ByteArray)) = false := by simp [q3]
    by_cases q4 : s = (⟨#[110, 111, 116]⟩ : ByteArray)
    · have e4 : decide (s = (⟨#[110, 111, 116]⟩ : ByteArray)) = true := by simp [q4]
      simp (disch := first | omega | assumption | exact shr_lt (by assumption) | exact ndiff32 (by assumption) | exact below_lt (by omega) | fail) only [wIf_bool, if_true, if_false, Bool.false_eq_true, wBin_streq, e0, e1, e2, e3, e4]
      exact hj _ ⟨fun _ => by rw [q4]; simp [reserved], fun _ => rfl⟩
    have e4 : decide (s = (⟨#[110, 111, 116]⟩ : ByteArray)) = false := by simp [q4]
    by_cases q5 : s = (⟨#[111, 114, 100, 101, 114]⟩ : ByteArray)
    · have e5 : decide (s = (⟨#[111, 114, 100, 101, 114]⟩ : ByteArray)) = true := by simp [q5]
      simp (disch := first | omega | assumption | exact shr_lt (by assumption) | exact ndiff32 (by assumption) | exact below_lt (by omega) | fail) only [wIf_bool, if_true, if_false, Bool.false_eq_true, wBin_streq, e0, e1, e2, e3, e4, e5]
      exact hj _ ⟨fun _ => by rw [q5]; simp [reserved], fun _ => rfl⟩
    have e5 : decide (s = (⟨#[111, 114, 100, 101, 114]⟩ : ByteArray)) = false := by simp [q5]
    by_cases q6 : s = (⟨#[115, 117, 109]⟩ : ByteArray)
    · have e6 : decide (s = (⟨#[115, 117, 109]⟩ : ByteArray)) = true := by simp [q6]
      simp (disch := first | omega | assumption | exact shr_lt (by assumption) | exact ndiff32 (by assumption) | exact below_lt (by omega) | fail) only [wIf_bool, if_false, Bool.false_eq_true, wBin_streq, e0, e1, e2, e3, e4, e5, e6]
      exact hj _ ⟨fun _ => by rw [q6]; simp [reserved], fun _ => rfl⟩
    have e6 : decide (s = (⟨#[115, 117, 109]⟩ : ByteArray)) = false := by simp [q6]
    simp (disch := first | omega | assumption | exact shr_lt (by assumption) | exact ndiff32 (by assumption) | exact below_lt (by omega) | fail) only [wIf_bool, if_false, Bool.false_eq_true, wBin_streq, e0, e1, e2, e3, e4, e5, e6]
    exact hj _ ⟨fun h => (by cases h), fun h => by simp [reserved, q0, q1, q2, q3, q4, q5, q6] at h⟩
  rintro _ _ _ ⟨⟨c, rfl, hc⟩, rfl, rfl⟩
  unfold nameV
  cases c with
  | true =>
    have hm := hc.1 rfl
    have e : decide (s ∈ reserved) = true := by simp [hm]
    simp (disch := first | omega | assumption | exact shr_lt (by assumption) | exact ndiff32 (by assumption) | exact below_lt (by omega) | fail) only [List.getD_cons_zero, wIf_bool, forceV_eq, if_true, and_true, and_self]
    rw [e]; rfl
  | false =>
    have hm : ¬ s ∈ reserved := fun h => by have := hc.2 h; cases this
    have e : decide (s ∈ reserved) = false := by simp [hm]
    simp (disch := first | omega | assumption | exact shr_lt (by assumption) | exact ndiff32 (by assumption) | exact below_lt (by omega) | fail) only [List.getD_cons_zero, wIf_bool, forceV_eq, if_false, Bool.false_eq_true, and_true, and_self]
    refine wCall_rule (catalog37 s H nx hs) ?_
    rintro _ _ _ ⟨⟨b, rfl, hb⟩, rfl, rfl⟩
    refine ⟨?_, rfl, rfl⟩
    rw [e, Bool.not_false, Bool.true_and]
    congr 1
    rw [Bool.eq_iff_iff, decide_eq_true_eq]
    exact hb.symm
end Go.Proofs.YthbdeaeghipliaaGreatDoor

set_option linter.unusedSimpArgs false
set_option linter.unusedVariables false
set_option linter.unusedSectionVars false
namespace Go.Proofs.YthbdeaeghipliaaGreatDoor
open Go.Clo

theorem Sl.take {H : Heap} {nx : Nat} {A : Option Addr} {l : List ByteArray} (h : Sl H nx A (strs l)) (i : Nat) : Sl H nx A (strs (l.take i)) := by
  intro j v hv
  refine h j v ?_
  unfold strs at hv ⊢
  rw [List.getElem?_map, Option.map_eq_some_iff] at hv ⊢
  obtain ⟨z, hz, e⟩ := hv
  rw [List.getElem?_take] at hz
  split at hz
  · exact ⟨z, hz, e⟩
  · cases hz
open Classical in
theorem in_idx (l : List ByteArray) (s : ByteArray) : decide (0 ≤ idxOf l s) = decide (s ∈ l) := by
  rw [Bool.eq_iff_iff, decide_eq_true_eq, decide_eq_true_eq]
  have := idxOf_neg (l := l) (s := s)
  constructor
  · intro h
    refine Classical.byContradiction fun hn => ?_
    have := this.2 hn
    omega
  · intro h
    refine Classical.byContradiction fun hn => ?_
    exact this.1 (by omega) h
theorem drop_consB {α : Type} {l : List α} {i : Nat} {x : α} (h : l[i]? = some x) : l.drop i = x :: l.drop (i + 1) := by
  obtain ⟨hi, rfl⟩ := List.getElem?_eq_some_iff.1 h
  exact List.drop_eq_getElem_cons hi
theorem take_snocB {α : Type} {l : List α} {i : Nat} {x : α} (h : l[i]? = some x) : l.take (i + 1) = l.take i ++ [x] := by
  rw [List.take_add_one, h]; rfl

open Classical in
theorem head41 (A : Option Addr) (l : List ByteArray) (cap : Nat) (H : Heap) (nx : Nat) (hS : Sl H nx A (strs l)) (hR : HasR H nx A) (hcap : l.length ≤ cap) (hv : ∀ s ∈ l, s.size ≤ 100) :
    Ans Tryz.prog 41 [.slice A l.length cap] H nx fun r H' nx' => .int .i64 (headCode l) = r ∧ H = H' ∧ nx = nx' := by
  refine spec41 ?_
  unfold F41
  by_cases h6 : 6 < l.length
  · have d : (6 : Int) < (l.length : Int) := by omega
    simp (disch := first | omega | assumption | exact shr_lt (by assumption) | exact ndiff32 (by assumption) | exact below_lt (by omega) | fail) only [wBin_gtr, wIf_bool, wLen_slice, forceV_eq, decide_true, if_true, and_true, and_self, d]
    rw [headCode, if_pos h6]
  have d : ¬ (6 : Int) < (l.length : Int) := by omega
  have hH : headCode l = headC [] l := by rw [headCode, if_neg h6]
  rw [hH]
  simp (disch := first | omega | assumption | exact shr_lt (by assumption) | exact ndiff32 (by assumption) | exact below_lt (by omega) | fail) only [wBin_gtr, wIf_bool, wLen_slice, forceV_eq, decide_false, if_false, Bool.false_eq_true, and_true, and_self, d]
  refine wLoop_rule (m := l.length) (fun m L H' nx' => ∃ i : Nat, m + i = l.length ∧ L = [.int .i64 (i : Int)] ∧ headC [] l = headC (l.take i) (l.drop i) ∧ H = H' ∧ nx = nx') ?_ ⟨0, rfl, rfl, by simp, rfl, rfl⟩
  rintro m ih L _ _ ⟨i, hm, rfl, hc, rfl, rfl⟩ hih
  simp (disch := first | omega | assumption | exact shr_lt (by assumption) | exact ndiff32 (by assumption) | exact below_lt (by omega) | fail) only [List.getD_cons_zero, wBin_lss, wIf_bool, and_true, and_self, wBin_add64]
  by_cases hi : i < l.length
  case neg =>
    have hi' : ¬ (i : Int) < (l.length : Int) := by omega
    simp (disch := first | omega | assumption | exact shr_lt (by assumption) | exact ndiff32 (by assumption) | exact below_lt (by omega) | fail) only [decide_false, if_false, Bool.false_eq_true, hi']
    rw [hc, List.drop_eq_nil_of_le (by omega)]; rfl
  have hi' : (i : Int) < (l.length : Int) := by omega
  obtain ⟨s, hs⟩ : ∃ s, l[i]? = some s := ⟨_, List.getElem?_eq_getElem hi⟩
  have hsm := List.mem_of_getElem? hs
  obtain ⟨b, o, row, rfl, hb, hrow, hget⟩ := hS.open (i := i) (by rw [strs_length]; omega)
  obtain ⟨c, hrom⟩ : ∃ c, getH H b = some (.rom c) := by
    rcases hR with h | ⟨b', o', c, h1, h2, h3⟩
    · cases h
    · cases h1; exact ⟨c, h3⟩
  have g0 := hget _ _ (strs_get hs)
  rw [drop_consB hs] at hc
  simp (disch := first | omega | assumption | exact shr_lt (by assumption) | exact ndiff32 (by assumption) | exact below_lt (by omega) | fail) only [wLd_none, cellP_one, Option.elim_some, decide_true, if_true, wIdx_slice, Int.toNat_natCast, Nat.mul_one, hi', ldP_row hrow, g0]
  refine wCall_rule (valid69 s H nx (by have := hv s hsm; omega)) ?_
  rintro _ _ _ ⟨rfl, rfl, rfl⟩
  cases hn : nameV s with
  | false =>
    simp (disch := first | omega | assumption | exact shr_lt (by assumption) | exact ndiff32 (by assumption) | exact below_lt (by omega) | fail) only [wIf_bool, wUn_not, if_true, and_true, Bool.not_false, and_self]
    rw [hc, headC, if_neg (by simp [hn])]
  | true =>
    rw [headC, if_pos hn] at hc
    have hw := fun k => wSl_hi_rom (o := o) (n := l.length) (cap := cap) (h := i) hrom (by omega) k
    simp (disch := first | omega | assumption | exact shr_lt (by assumption) | exact ndiff32 (by assumption) | exact below_lt (by omega) | fail) only [wIf_bool, wUn_not, if_false, Bool.false_eq_true, and_true, Bool.not_true, and_self, hw]
    have call := contains23 (some ⟨b, o, none⟩) (l.take i) s cap H nx (Sl.take hS i) (by rw [List.length_take]; omega)
    rw [List.length_take, Nat.min_eq_left (by omega)] at call
    refine wCall_rule call ?_
    rintro _ _ _ ⟨rfl, rfl, rfl⟩
    rw [in_idx]
    by_cases hmem : s ∈ l.take i
    · have d : decide (s ∈ l.take i) = true := by simp [hmem]
      simp (disch := first | omega | assumption | exact shr_lt (by assumption) | exact ndiff32 (by assumption) | exact below_lt (by omega) | fail) only [wIf_bool, if_true, and_true, and_self, d]
      rw [hc, if_pos hmem]
    · have d : decide (s ∈ l.take i) = false := by simp [hmem]
      rw [if_neg hmem, ← take_snocB hs] at hc
      simp (disch := first | omega | assumption | exact shr_lt (by assumption) | exact ndiff32 (by assumption) | exact below_lt (by omega) | fail) only [wIf_bool, if_false, Bool.false_eq_true, and_true, and_self, d]
      exact hih (m - 1) _ _ _ (by omega) ⟨i + 1, by omega, by simp, hc, rfl, rfl⟩

theorem agg42 (q : QueryR) (H : Heap) (nx : Nat) (hv : q.aggvar.size ≤ 100) : Ans Tryz.prog 42 [.agg ⟨queryC q⟩] H nx fun r H' nx' => .int .i64 (aggCode q.agg q.aggvar) = r ∧ Ext H nx H' nx' := by
  refine spec42 ?_
  unfold F42
  unfold queryC
  generalize q.agg = g
  generalize q.aggvar = s at hv
  have hE : ∀ b, Ext H nx (hs H nx (some b)) (nx + 1) := fun b => (Ext.refl H nx).new _ (Nat.le_refl _) (by omega)
  unfold aggCode
  by_cases h01 : g = 0 ∨ g = 1
  · rw [if_pos h01]
    by_cases hs0 : s = nul
    · have ds : decide (s = ⟨#[]⟩) = true := by simp [hs0, nul]
      rw [if_pos hs0]
      by_cases h0 : g = 0
      · have d0 : decide (g = 0) = true := by simp [h0]
        simp (disch := first | omega | assumption | exact shr_lt (by assumption) | exact ndiff32 (by assumption) | exact below_lt (by omega) | fail) only [List.getD_cons_zero, wBin_eql, wIf_bool, wFld_eq, wNew_eq, dBox_agg, oneCells, wLd_none, ldP_cells, cellP_one, getH_same, forceV_eq, Option.elim_some, List.getElem?_cons_zero, List.getElem?_cons_succ, Yld.val, if_true, if_false, Bool.false_eq_true, Nat.zero_add, true_and, Bool.not_true, wJoin_eq, d0, wBin_strne, ds]
        exact hE _
      · have d0 : decide (g = 0) = false := by simp [h0]
        have d1 : decide (g = 1) = true := by simp [h01.resolve_left h0]
        simp (disch := first | omega | assumption | exact shr_lt (by assumption) | exact ndiff32 (by assumption) | exact below_lt (by omega) | fail) only [List.getD_cons_zero, wBin_eql, wIf_bool, wFld_eq, wNew_eq, dBox_agg, oneCells, wLd_none, ldP_cells, cellP_one, getH_same, forceV_eq, Option.elim_some, List.getElem?_cons_zero, List.getElem?_cons_succ, Yld.val, if_true, if_false, Bool.false_eq_true, Nat.zero_add, true_and, Bool.not_true, wJoin_eq, d0, d1, wBin_strne, ds]
        exact hE _
    · have ds : decide (s = ⟨#[]⟩) = false := by simpa [nul] using hs0
      rw [if_neg hs0]
      by_cases h0 : g = 0
      · have d0 : decide (g = 0) = true := by simp [h0]
        simp (disch := first | omega | assumption | exact shr_lt (by assumption) | exact ndiff32 (by assumption) | exact below_lt (by omega) | fail) only [List.getD_cons_zero, wBin_eql, wIf_bool, wFld_eq, wNew_eq, dBox_agg, oneCells, wLd_none, ldP_cells, cellP_one, getH_same, forceV_eq, Option.elim_some, List.getElem?_cons_zero, List.getElem?_cons_succ, Yld.val, if_true, Nat.zero_add, true_and, Bool.not_false, wJoin_eq, d0, wBin_strne, ds]
        exact hE _
      · have d0 : decide (g = 0) = false := by simp [h0]
        have d1 : decide (g = 1) = true := by simp [h01.resolve_left h0]
        simp (disch := first | omega | assumption | exact shr_lt (by assumption) | exact ndiff32 (by assumption) | exact below_lt (by omega) | fail) only [List.getD_cons_zero, wBin_eql, wIf_bool, wFld_eq, wNew_eq, dBox_agg, oneCells, wLd_none, ldP_cells, cellP_one, getH_same, forceV_eq, Option.elim_some, List.getElem?_cons_zero, List.getElem?_cons_succ, Yld.val, if_true, if_false, Bool.false_eq_true, Nat.zero_add, true_and, Bool.not_false, wJoin_eq, d0, d1, wBin_strne, ds]
        exact hE _
  rw [if_neg h01]
  have d0 : decide (g = 0) = false := by simp; exact fun h => h01 (.inl h)
  have d1 : decide (g = 1) = false := by simp; exact fun h => h01 (.inr h)
  by_cases h234 : g = 2 ∨ g = 3 ∨ g = 4
  case neg =>
    rw [if_neg h234]
    have d2 : decide (g = 2) = false := by simp; exact fun h => h234 (.inl h)
    have d3 : decide (g = 3) = false := by simp; exact fun h => h234 (.inr (.inl h))
    have d4 : decide (g = 4) = false := by simp; exact fun h => h234 (.inr (.inr h))
    simp (disch := first | omega | assumption | exact shr_lt (by assumption) | exact ndiff32 (by assumption) | exact below_lt (by omega) | fail) only [List.getD_cons_zero, wBin_eql, wIf_bool, wFld_eq, wNew_eq, dBox_agg, oneCells, wLd_none, ldP_cells, cellP_one, getH_same, forceV_eq, Option.elim_some, List.getElem?_cons_zero, List.getElem?_cons_succ, Yld.val, if_true, if_false, Bool.false_eq_true, Nat.zero_add, true_and, wJoin_eq, d0, d1, d2, d3, d4]
    exact hE _
  rw [if_pos h234]
  simp (disch := first | omega | assumption | exact shr_lt (by assumption) | exact ndiff32 (by assumption) | exact below_lt (by omega) | fail) only [List.getD_cons_zero, wBin_eql, wIf_bool, wFld_eq, wNew_eq, dBox_agg, oneCells, wLd_none, ldP_cells, cellP_one, getH_same, forceV_eq, Option.elim_some, List.getElem?_cons_zero, List.getElem?_cons_succ, Yld.val, if_true, if_false, Bool.false_eq_true, Nat.zero_add, wJoin_eq, d0, d1]
  generalize hK : hs H nx (some (.cells [.slice q.HA q.head.length q.hc, .int .i64 g, .string s, .slice q.RA q.rules.length q.rc, .slice q.OA q.order.length q.oc] 0)) = K
  have kQ : getH K nx = some (.cells [.slice q.HA q.head.length q.hc, .int .i64 g, .string s, .slice q.RA q.rules.length q.rc, .slice q.OA q.order.length q.oc] 0) := by rw [← hK, getH_same]
  have kE : Ext H nx K (nx + 1) := by rw [← hK]; exact hE _
  have fin : wCall Tryz.prog 69 [.string s] K (nx + 1) fun t H4 nx4 => wUn .not t fun t18 => wIf t18 (Value.int .i64 (if nameV s = true then 0 else 7) = .int .i64 7 ∧ Ext H nx H4 nx4) (Value.int .i64 (if nameV s = true then 0 else 7) = .int .i64 0 ∧ Ext H nx H4 nx4) := by
    refine wCall_rule (valid69 s K _ (by omega)) ?_
    rintro _ _ _ ⟨rfl, rfl, rfl⟩
    cases hn : nameV s with
    | true => 
      simp (disch := first | omega | assumption | exact shr_lt (by assumption) | exact ndiff32 (by assumption) | exact below_lt (by omega) | fail) only [wIf_bool, wUn_not, if_true, if_false, Bool.false_eq_true, true_and, Bool.not_true]
      exact kE
    | false => 
      simp (disch := first | omega | assumption | exact shr_lt (by assumption) | exact ndiff32 (by assumption) | exact below_lt (by omega) | fail) only [wIf_bool, wUn_not, if_true, if_false, Bool.false_eq_true, true_and, Bool.not_false]
      exact kE
  by_cases h2 : g = 2
  · have d2 : decide (g = 2) = true := by simp [h2]
    simp (disch := first | omega | assumption | exact shr_lt (by assumption) | exact ndiff32 (by assumption) | exact below_lt (by omega) | fail) only [if_true, d2]
    exact fin
  have d2 : decide (g = 2) = false := by simp [h2]
  by_cases h3 : g = 3
  · have d3 : decide (g = 3) = true := by simp [h3]
    simp (disch := first | omega | assumption | exact shr_lt (by assumption) | exact ndiff32 (by assumption) | exact below_lt (by omega) | fail) only [if_true, if_false, Bool.false_eq_true, d2, d3]
    exact fin
  have d3 : decide (g = 3) = false := by simp [h3]
  have d4 : decide (g = 4) = true := by
    simp; exact (h234.resolve_left h2).resolve_left h3
  simp (disch := first | omega | assumption | exact shr_lt (by assumption) | exact ndiff32 (by assumption) | exact below_lt (by omega) | fail) only [if_true, if_false, Bool.false_eq_true, d2, d3, d4]
  exact fin
end Go.Proofs.YthbdeaeghipliaaGreatDoor

set_option linter.unusedSimpArgs false
set_option linter.unusedVariables false
set_option linter.unusedSectionVars false
namespace Go.Proofs.YthbdeaeghipliaaGreatDoor
open Go.Clo

theorem putL_lit4 (a b c d x y z u : Value) : putL [a, b, c, d] 0 [x, y, z, u] = [x, y, z, u] := rfl
theorem putL_lit5 (a b c d e x y z u v : Value) : putL [a, b, c, d, e] 0 [x, y, z, u, v] = [x, y, z, u, v] := rfl
theorem cellP_tail3 (v a b c : Value) (k : VP) : cellP [v, a, b, c] 1 (some 3) k = k (.agg ⟨[a, b, c]⟩) := by rw [cellP_agg]; simp
theorem cellP_tail5 (v o a b c : Value) (k : VP) : cellP [v, o, a, b, c] 2 (some 3) k = k (.agg ⟨[a, b, c]⟩) := by rw [cellP_agg]; simp
theorem wBuild_val (k : VP) : wBuild [.int .i64 0, .int .i64 0, .string ⟨#[]⟩] [(0, 1), (1, 1), (2, 1)] [] k = k (.agg ⟨[.int .i64 0, .int .i64 0, .string ⟨#[]⟩]⟩) := spine_eq _ _
theorem str_beq (a b : ByteArray) : (a.toList == b.toList) = decide (a = b) := by
  rw [Bool.eq_iff_iff, beq_iff_eq, decide_eq_true_eq]
  exact ⟨fun h => bytes_eq h, fun h => by rw [h]⟩
theorem wVf_val0 (kd i : Int) (s : ByteArray) (k : VP) : wVf (.eqs true [⟨0, 0⟩, ⟨1, 0⟩, ⟨2, 2⟩]) [.agg ⟨[.int .i64 kd, .int .i64 i, .string s]⟩, .agg ⟨[.int .i64 0, .int .i64 0, .string ⟨#[]⟩]⟩] k = k (.bool (!decide (kd = 0 ∧ i = 0 ∧ s = nul))) := by
  have e : VF.ev (.eqs true [⟨0, 0⟩, ⟨1, 0⟩, ⟨2, 2⟩]) [.agg ⟨[.int .i64 kd, .int .i64 i, .string s]⟩, .agg ⟨[.int .i64 0, .int .i64 0, .string ⟨#[]⟩]⟩] = some (.bool (!(decide (kd = 0 ∧ i = 0 ∧ s = nul)))) := by
    show ((eqCells [.int .i64 kd, .int .i64 i, .string s] [.int .i64 0, .int .i64 0, .string ⟨#[]⟩] [⟨0, 0⟩, ⟨1, 0⟩, ⟨2, 2⟩]).map fun r => Value.bool (cond true (!r) r)) = _
    have e2 : eqCells [.int .i64 kd, .int .i64 i, .string s] [.int .i64 0, .int .i64 0, .string ⟨#[]⟩] [⟨0, 0⟩, ⟨1, 0⟩, ⟨2, 2⟩] = some ((kd == 0) && ((i == 0) && ((s.toList == (⟨#[]⟩ : ByteArray).toList) && true))) := rfl
    rw [e2, str_beq]
    simp only [Option.map_some, cond_true]
    congr 3
    rw [Bool.eq_iff_iff]
    simp [nul]
    exact decide_eq_true_iff.symm
  unfold wVf
  rw [e, optK_eq]; rfl

def AtomS (a : AtomR) : Prop := a.rel.size ≤ 100 ∧ ∀ t ∈ a.terms, t.var.size ≤ 100
def RuleS (r : RuleR) : Prop := (∀ a ∈ r.atoms, AtomS a) ∧ ∀ c ∈ r.conds, c.var.size ≤ 100

set_option maxHeartbeats 2000000 in
theorem atom100 (a : AtomR) (H : Heap) (nx : Nat) (hA : AtomOK H nx a) (hz9 : AtomS a) : Ans Tryz.prog 100 [.agg ⟨atomC a⟩] H nx fun r H' nx' => .int .i64 (atomCode a) = r ∧ Ext H nx H' nx' := by
  refine spec100 ?_
  unfold F100
  unfold atomC
  have hE1 : Ext H nx (hs H nx (some (.cells [.bool a.neg, .string a.rel, .slice a.TA a.terms.length a.tc] 0))) (nx + 1) := (Ext.refl H nx).new _ (Nat.le_refl _) (by omega)
  have hs1 := hz9.1
  simp (disch := first | omega | assumption | exact shr_lt (by assumption) | exact ndiff32 (by assumption) | exact below_lt (by omega) | fail) only [wFld_eq, wNew_eq, dBox_agg, oneCells, wLd_none, wLd_3, ldP_cells, cellP_one, getH_same, forceV_eq, Option.elim_some, List.getElem?_cons_zero, List.getElem?_cons_succ, Yld.val, if_true, Nat.zero_add, Nat.add_zero]
  refine wCall_rule (valid69 a.rel _ _ (by omega)) ?_
  rintro _ _ _ ⟨rfl, rfl, rfl⟩
  cases hn : nameV a.rel with
  | false =>
    simp (disch := first | omega | assumption | exact shr_lt (by assumption) | exact ndiff32 (by assumption) | exact below_lt (by omega) | fail) only [wBin_gtr, wIf_bool, wUn_not, wLen_slice, ldP_cells, cellP_one, getH_same, Option.elim_some, List.getElem?_cons_zero, List.getElem?_cons_succ, if_true, Bool.not_false]
    exact ⟨by rw [atomCode, if_neg (by simp [hn])], hE1⟩
  | true =>
  by_cases h6 : 6 < a.terms.length
  · have d : (6 : Int) < (a.terms.length : Int) := by omega
    simp (disch := first | omega | assumption | exact shr_lt (by assumption) | exact ndiff32 (by assumption) | exact below_lt (by omega) | fail) only [wBin_gtr, wIf_bool, wUn_not, wLen_slice, ldP_cells, cellP_one, getH_same, Option.elim_some, List.getElem?_cons_zero, List.getElem?_cons_succ, decide_true, if_true, if_false, Bool.false_eq_true, Bool.not_true, d]
    exact ⟨by rw [atomCode, if_pos hn, if_pos h6], hE1⟩
  have d : ¬ (6 : Int) < (a.terms.length : Int) := by omega
  have hcode : atomCode a = firstC (a.terms.map termCode) := by rw [atomCode, if_pos hn, if_neg h6]
  rw [hcode]
  simp (disch := first | omega | assumption | exact shr_lt (by assumption) | exact ndiff32 (by assumption) | exact below_lt (by omega) | fail) only [wBin_gtr, wIf_bool, wUn_not, wLen_slice, ldP_cells, cellP_one, getH_same, Option.elim_some, List.getElem?_cons_zero, List.getElem?_cons_succ, decide_false, if_false, Bool.false_eq_true, Bool.not_true, d]
  refine wLoop_rule (m := a.terms.length) (fun m L H' nx' => ∃ i : Nat, m + i = a.terms.length ∧ L = [.int .i64 (i : Int)] ∧ (∀ (j : Nat) t, j < i → a.terms[j]? = some t → termCode t = 0) ∧ Ext H nx H' nx') ?_ ⟨0, rfl, rfl, fun j t h => by omega, hE1⟩
  rintro m ih L H2 nx2 ⟨i, hm, rfl, hz, hE2⟩ hih
  simp (disch := first | omega | assumption | exact shr_lt (by assumption) | exact ndiff32 (by assumption) | exact below_lt (by omega) | fail) only [List.getD_cons_zero, wBin_lss, wIf_bool, wBin_add64]
  by_cases hi : i < a.terms.length
  case neg =>
    have hi' : ¬ (i : Int) < (a.terms.length : Int) := by omega
    simp (disch := first | omega | assumption | exact shr_lt (by assumption) | exact ndiff32 (by assumption) | exact below_lt (by omega) | fail) only [decide_false, if_false, Bool.false_eq_true, hi']
    exact ⟨by rw [firstC_all fun j t ht => hz j t (by have := (List.getElem?_eq_some_iff.1 ht).1; omega) ht], hE2⟩
  have hi' : (i : Int) < (a.terms.length : Int) := by omega
  obtain ⟨t, ht⟩ : ∃ t, a.terms[i]? = some t := ⟨_, List.getElem?_eq_getElem hi⟩
  have htm := List.mem_of_getElem? ht
  have htv := hz9.2 t htm
  obtain ⟨b, o, row, hTA, hb, hrow, _, hcell⟩ := Sl.elem (hA.ext hE2) termC_len (by omega) ht
  have stop : ∀ {c : Int} {H' : Heap} {nx' : Nat}, termCode t = c → c ≠ 0 → Ext H nx H' nx' → Value.int .i64 (firstC (a.terms.map termCode)) = .int .i64 c ∧ Ext H nx H' nx' := fun h1 h2 h3 => ⟨by rw [firstC_at hz ht (by rw [h1]; exact h2), h1], h3⟩
  have next : ∀ {H' : Heap} {nx' : Nat}, termCode t = 0 → Ext H nx H' nx' → ih [.int .i64 ((i : Int) + 1)] H' nx' := fun h1 h3 =>
    hih (m - 1) _ _ _ (by omega) ⟨i + 1, by omega, by simp, fun j u hj hu => by
      by_cases hji : j = i
      · subst hji; rw [ht] at hu; cases hu; exact h1
      · exact hz j u (by omega) hu, h3⟩
  have hE3 : ∀ b1 b2, Ext H nx (hs (hs H2 nx2 (some b1)) nx2 (some b2)) (nx2 + 1) := fun b1 b2 => hE2.trans (((Ext.refl H2 nx2).new _ (Nat.le_refl _) (by omega) : Ext H2 nx2 _ (nx2 + 1)).hs (Nat.le_refl _))
  unfold termC at hcell
  rw [hTA]
  by_cases hv : t.var = nul
  · have dv : decide (t.var = ⟨#[]⟩) = true := by simp [hv, nul]
    simp (disch := first | omega | assumption | exact shr_lt (by assumption) | exact ndiff32 (by assumption) | exact below_lt (by omega) | fail) only [wIf_bool, oneCells, ldP_cells, cellP_one, getH_same, Option.elim_some, List.getElem?_cons_zero, decide_true, if_true, Nat.zero_add, true_and, and_self, wIdx_slice, Int.toNat_natCast, wSt_agg, stP_cells, List.length_cons, List.length_nil, Nat.le_refl, Nat.reduceAdd, hi', ldP_row hrow, hcell, wLd_4, putL_lit4, wJoin_eq, wBin_streq, dv, cellP_tail3]
    refine wCall_rule (value88 t.kind t.int t.str _ _) ?_
    rintro _ H4 nx4 ⟨rfl, hE4⟩
    cases hval : valueV t.kind t.int t.str with
    | false =>
      simp (disch := first | omega | assumption | exact shr_lt (by assumption) | exact ndiff32 (by assumption) | exact below_lt (by omega) | fail) only [wIf_bool, wUn_not, if_true, Bool.not_false]
      exact stop (by rw [termCode, if_pos hv, if_neg (by simp [hval])]) (by decide) ((hE3 _ _).trans hE4)
    | true =>
      simp (disch := first | omega | assumption | exact shr_lt (by assumption) | exact ndiff32 (by assumption) | exact below_lt (by omega) | fail) only [wIf_bool, wUn_not, if_false, Bool.false_eq_true, Bool.not_true]
      exact next (by rw [termCode, if_pos hv, if_pos hval]) ((hE3 _ _).trans hE4)
  · have dv : decide (t.var = ⟨#[]⟩) = false := by simpa [nul] using hv
    simp (disch := first | omega | assumption | exact shr_lt (by assumption) | exact ndiff32 (by assumption) | exact below_lt (by omega) | fail) only [wIf_bool, oneCells, ldP_cells, cellP_one, getH_same, Option.elim_some, List.getElem?_cons_zero, decide_true, if_true, if_false, Bool.false_eq_true, Nat.zero_add, true_and, and_self, wIdx_slice, Int.toNat_natCast, wSt_agg, stP_cells, List.length_cons, List.length_nil, Nat.le_refl, Nat.reduceAdd, hi', ldP_row hrow, hcell, wLd_4, putL_lit4, wJoin_eq, wBin_streq, dv, cellP_tail3]
    refine wCall_rule (valid69 t.var _ _ (by omega)) ?_
    rintro _ _ _ ⟨rfl, rfl, rfl⟩
    cases hnv : nameV t.var with
    | false =>
      simp (disch := first | omega | assumption | exact shr_lt (by assumption) | exact ndiff32 (by assumption) | exact below_lt (by omega) | fail) only [wIf_bool, wUn_not, ldP_cells, getH_same, if_true, Bool.not_false]
      exact stop (by rw [termCode, if_neg hv, if_neg (by simp [hnv])]) (by decide) (hE3 _ _)
    | true =>
      by_cases hz0 : t.kind = 0 ∧ t.int = 0 ∧ t.str = nul
      · have dz : decide (t.kind = 0 ∧ t.int = 0 ∧ t.str = nul) = true := decide_eq_true hz0
        simp (disch := first | omega | assumption | exact shr_lt (by assumption) | exact ndiff32 (by assumption) | exact below_lt (by omega) | fail) only [wIf_bool, wUn_not, ldP_cells, getH_same, if_false, Bool.false_eq_true, Bool.not_true, cellP_tail3, wBuild_val, wVf_val0, dz]
        exact next (by rw [termCode, if_neg hv, if_pos hnv, if_pos hz0]) (hE3 _ _)
      · have dz : decide (t.kind = 0 ∧ t.int = 0 ∧ t.str = nul) = false := decide_eq_false hz0
        simp (disch := first | omega | assumption | exact shr_lt (by assumption) | exact ndiff32 (by assumption) | exact below_lt (by omega) | fail) only [wIf_bool, wUn_not, ldP_cells, getH_same, if_true, if_false, Bool.false_eq_true, Bool.not_true, Bool.not_false, cellP_tail3, wBuild_val, wVf_val0, dz]
        exact stop (by rw [termCode, if_neg hv, if_pos hnv, if_neg hz0]) (by decide) (hE3 _ _)

set_option maxHeartbeats 2000000 in
theorem items71 (r : RuleR) (H : Heap) (nx : Nat) (hA : RuleOK H nx r) (hz9 : RuleS r) : Ans Tryz.prog 71 [.agg ⟨ruleC r⟩] H nx fun v H' nx' => .int .i64 (itemsCode r) = v ∧ Ext H nx H' nx' := by
  refine spec71 ?_
  unfold F71
  unfold ruleC
  have hE1 : Ext H nx (hs H nx (some (.cells [.slice r.AA r.atoms.length r.ac, .slice r.CA r.conds.length r.cc] 0))) (nx + 1) := (Ext.refl H nx).new _ (Nat.le_refl _) (by omega)
  have hg1 : getH (hs H nx (some (.cells [.slice r.AA r.atoms.length r.ac, .slice r.CA r.conds.length r.cc] 0))) nx = some (.cells [.slice r.AA r.atoms.length r.ac, .slice r.CA r.conds.length r.cc] 0) := getH_same _ _ _
  by_cases h0 : r.atoms.length = 0
  · have d0 : decide (r.atoms.length = 0) = true := decide_eq_true h0
    simp (disch := first | omega | assumption | exact shr_lt (by assumption) | exact ndiff32 (by assumption) | exact below_lt (by omega) | fail) only [wBin_gtr, wBin_eql, wIf_bool, wGuard_false, wFld_eq, wLen_slice, wNew_eq, dBox_agg, oneCells, wLd_none, wLd_3, ldP_cells, cellP_one, getH_same, forceV_eq, Option.elim_some, List.getElem?_cons_zero, List.getElem?_cons_succ, Yld.val, if_true, Nat.zero_add, Nat.add_zero, u32_eq_zero, d0]
    exact ⟨by rw [itemsCode, if_pos h0], hE1⟩
  have d0 : decide (r.atoms.length = 0) = false := decide_eq_false h0
  by_cases h8 : 8 < r.atoms.length ∨ 8 < r.conds.length
  · have hc : itemsCode r = 12 := by rw [itemsCode, if_neg h0, if_pos h8]
    by_cases h81 : 8 < r.atoms.length
    · have d1 : (8 : Int) < (r.atoms.length : Int) := by omega
      simp (disch := first | omega | assumption | exact shr_lt (by assumption) | exact ndiff32 (by assumption) | exact below_lt (by omega) | fail) only [List.getD_cons_zero, wBin_gtr, wBin_eql, wIf_bool, wGuard_false, wFld_eq, wLen_slice, wNew_eq, dBox_agg, oneCells, wLd_none, wLd_3, ldP_cells, cellP_one, getH_same, forceV_eq, Option.elim_some, List.getElem?_cons_zero, List.getElem?_cons_succ, Yld.val, decide_true, if_true, if_false, Bool.false_eq_true, Nat.zero_add, Nat.add_zero, u32_eq_zero, d0, d1, wJoin_eq]
      exact ⟨by rw [hc], hE1⟩
    · have d1 : ¬ (8 : Int) < (r.atoms.length : Int) := by omega
      have d2 : (8 : Int) < (r.conds.length : Int) := by have := h8.resolve_left h81; omega
      simp (disch := first | omega | assumption | exact shr_lt (by assumption) | exact ndiff32 (by assumption) | exact below_lt (by omega) | fail) only [List.getD_cons_zero, wBin_gtr, wBin_eql, wIf_bool, wGuard_false, wFld_eq, wLen_slice, wNew_eq, dBox_agg, oneCells, wLd_none, wLd_3, ldP_cells, cellP_one, getH_same, forceV_eq, Option.elim_some, List.getElem?_cons_zero, List.getElem?_cons_succ, Yld.val, decide_true, decide_false, if_true, if_false, Bool.false_eq_true, Nat.zero_add, Nat.add_zero, u32_eq_zero, d0, d1, d2, wJoin_eq]
      exact ⟨by rw [hc], hE1⟩
  have d1 : ¬ (8 : Int) < (r.atoms.length : Int) := by omega
  have d2 : ¬ (8 : Int) < (r.conds.length : Int) := by omega
  have hc : itemsCode r = if firstC (r.atoms.map atomCode) ≠ 0 then firstC (r.atoms.map atomCode) else firstC (r.conds.map condCode) := by rw [itemsCode, if_neg h0, if_neg h8]
  rw [hc]
  generalize hX : (if firstC (r.atoms.map atomCode) ≠ 0 then firstC (r.atoms.map atomCode) else firstC (r.conds.map condCode)) = X
  simp (disch := first | omega | assumption | exact shr_lt (by assumption) | exact ndiff32 (by assumption) | exact below_lt (by omega) | fail) only [List.getD_cons_zero, wBin_gtr, wBin_eql, wIf_bool, wGuard_false, wFld_eq, wLen_slice, wNew_eq, dBox_agg, oneCells, wLd_none, wLd_3, ldP_cells, cellP_one, getH_same, forceV_eq, Option.elim_some, List.getElem?_cons_zero, List.getElem?_cons_succ, Yld.val, decide_false, if_true, if_false, Bool.false_eq_true, Nat.zero_add, Nat.add_zero, u32_eq_zero, d0, d1, d2, wJoin_eq]
  generalize hs H nx (some (.cells [.slice r.AA r.atoms.length r.ac, .slice r.CA r.conds.length r.cc] 0)) = H1 at hE1 hg1 ⊢
  refine wLoop_rule (m := r.atoms.length) (fun m L H' nx' => ∃ i : Nat, m + i = r.atoms.length ∧ L = [.int .i64 (i : Int)] ∧ (∀ (j : Nat) a, j < i → r.atoms[j]? = some a → atomCode a = 0) ∧ Ext H1 (nx + 1) H' nx') ?_ ⟨0, rfl, rfl, fun j t h => by omega, Ext.refl _ _⟩
  rintro m ih L H2 nx2 ⟨i, hm, rfl, hz, hE2⟩ hih
  have hEE2 := hE1.trans hE2
  have hg2 := (hE2.get nx (by omega)).trans hg1
  simp (disch := first | omega | assumption | exact shr_lt (by assumption) | exact ndiff32 (by assumption) | exact below_lt (by omega) | fail) only [List.getD_cons_zero, wBin_lss, wIf_bool, wBin_add64]
  by_cases hi : i < r.atoms.length
  case pos =>
    have hi' : (i : Int) < (r.atoms.length : Int) := by omega
    obtain ⟨a, ha⟩ : ∃ a, r.atoms[i]? = some a := ⟨_, List.getElem?_eq_getElem hi⟩
    have ham := List.mem_of_getElem? ha
    obtain ⟨b, o, row, hAA, hb, hrow, _, hcell⟩ := Sl.elem (hA.ext hEE2).atoms atomC_len (by omega) ha
    have hE3 : Ext H2 nx2 (hs (hs H2 nx2 (some (.cells [.bool false, .string ⟨#[]⟩, .slice none 0 0] 0))) nx2 (some (.cells (atomC a) 0))) (nx2 + 1) := ((Ext.refl H2 nx2).new _ (Nat.le_refl _) (by omega) : Ext H2 nx2 _ (nx2 + 1)).hs (Nat.le_refl _)
    have call := atom100 a _ _ ((hA.terms a ham).ext (hEE2.trans hE3)) (hz9.1 a ham)
    unfold atomC at hcell hE3 call
    rw [hAA]
    simp (disch := first | omega | assumption | exact shr_lt (by assumption) | exact ndiff32 (by assumption) | exact below_lt (by omega) | fail) only [oneCells, wLd_3, ldP_cells, getH_same, decide_true, if_true, Nat.zero_add, true_and, and_self, wIdx_slice, Int.toNat_natCast, wSt_agg, stP_cells, List.length_cons, List.length_nil, Nat.le_refl, Nat.reduceAdd, hi', ldP_row hrow, hcell, putL_lit3, cellP_lit3]
    refine wCall_rule call ?_
    rintro _ H4 nx4 ⟨rfl, hE4⟩
    by_cases hac : atomCode a = 0
    · have d : decide (atomCode a ≠ 0) = false := by simp [hac]
      simp (disch := first | omega | assumption | exact shr_lt (by assumption) | exact ndiff32 (by assumption) | exact below_lt (by omega) | fail) only [wBin_neq, wIf_bool, if_false, Bool.false_eq_true, d]
      refine hih (m - 1) _ _ _ (by omega) ⟨i + 1, by omega, by simp, fun j u hj hu => ?_, hE2.trans (hE3.trans hE4)⟩
      by_cases hji : j = i
      · subst hji; rw [ha] at hu; cases hu; exact hac
      · exact hz j u (by omega) hu
    · have d : decide (atomCode a ≠ 0) = true := by simp [hac]
      have e := firstC_at hz ha hac
      simp (disch := first | omega | assumption | exact shr_lt (by assumption) | exact ndiff32 (by assumption) | exact below_lt (by omega) | fail) only [wBin_neq, wIf_bool, if_true, d]
      exact ⟨by rw [← hX, e, if_pos hac], hEE2.trans (hE3.trans hE4)⟩
  have hi' : ¬ (i : Int) < (r.atoms.length : Int) := by omega
  have e0 : firstC (r.atoms.map atomCode) = 0 := firstC_all fun j t ht => hz j t (by have := (List.getElem?_eq_some_iff.1 ht).1; omega) ht
  rw [if_neg (by simp [e0])] at hX
  subst hX
  simp (disch := first | omega | assumption | exact shr_lt (by assumption) | exact ndiff32 (by assumption) | exact below_lt (by omega) | fail) only [wLen_slice, ldP_cells, cellP_one, Option.elim_some, List.getElem?_cons_zero, List.getElem?_cons_succ, decide_false, if_false, Bool.false_eq_true, hi', hg2]
  refine wLoop_rule (m := r.conds.length) (fun m L H' nx' => ∃ i : Nat, m + i = r.conds.length ∧ L = [.int .i64 (i : Int)] ∧ (∀ (j : Nat) c, j < i → r.conds[j]? = some c → condCode c = 0) ∧ Ext H nx H' nx') ?_ ⟨0, rfl, rfl, fun j t h => by omega, hEE2⟩
  rintro m5 ih5 L5 H5 nx5 ⟨i5, hm5, rfl, hz5, hE5⟩ hih5
  simp (disch := first | omega | assumption | exact shr_lt (by assumption) | exact ndiff32 (by assumption) | exact below_lt (by omega) | fail) only [List.getD_cons_zero, wBin_lss, wIf_bool, wBin_add64]
  by_cases hi5 : i5 < r.conds.length
  case neg =>
    have hi5' : ¬ (i5 : Int) < (r.conds.length : Int) := by omega
    simp (disch := first | omega | assumption | exact shr_lt (by assumption) | exact ndiff32 (by assumption) | exact below_lt (by omega) | fail) only [decide_false, if_false, Bool.false_eq_true, hi5']
    exact ⟨by rw [firstC_all fun j t ht => hz5 j t (by have := (List.getElem?_eq_some_iff.1 ht).1; omega) ht], hE5⟩
  have hi5' : (i5 : Int) < (r.conds.length : Int) := by omega
  obtain ⟨c, hcg⟩ : ∃ c, r.conds[i5]? = some c := ⟨_, List.getElem?_eq_getElem hi5⟩
  have hcm := List.mem_of_getElem? hcg
  have hcv := hz9.2 c hcm
  obtain ⟨b, o, row, hCA, hb, hrow, _, hcell⟩ := Sl.elem (hA.ext hE5).conds condC_len (by omega) hcg
  have hE6 : ∀ b1 b2, Ext H nx (hs (hs H5 nx5 (some b1)) nx5 (some b2)) (nx5 + 1) := fun b1 b2 => hE5.trans (((Ext.refl H5 nx5).new _ (Nat.le_refl _) (by omega) : Ext H5 nx5 _ (nx5 + 1)).hs (Nat.le_refl _))
  have stop : ∀ {cc : Int} {H' : Heap} {nx' : Nat}, condCode c = cc → cc ≠ 0 → Ext H nx H' nx' → Value.int .i64 (firstC (r.conds.map condCode)) = .int .i64 cc ∧ Ext H nx H' nx' := fun h1 h2 h3 => ⟨by rw [firstC_at hz5 hcg (by rw [h1]; exact h2), h1], h3⟩
  unfold condC at hcell
  rw [hCA]
  simp (disch := first | omega | assumption | exact shr_lt (by assumption) | exact ndiff32 (by assumption) | exact below_lt (by omega) | fail) only [oneCells, ldP_cells, cellP_one, getH_same, Option.elim_some, List.getElem?_cons_zero, decide_true, if_true, Nat.zero_add, true_and, and_self, wIdx_slice, Int.toNat_natCast, wSt_agg, stP_cells, List.length_cons, List.length_nil, Nat.le_refl, Nat.reduceAdd, hi5', ldP_row hrow, hcell, wLd_5, putL_lit5]
  refine wCall_rule (valid69 c.var _ _ (by omega)) ?_
  rintro _ _ _ ⟨rfl, rfl, rfl⟩
  cases hnv : nameV c.var with
  | false =>
    simp (disch := first | omega | assumption | exact shr_lt (by assumption) | exact ndiff32 (by assumption) | exact below_lt (by omega) | fail) only [wBin_lss, wBin_gtr, wIf_bool, wGuard_false, wUn_not, ldP_cells, cellP_one, getH_same, Option.elim_some, List.getElem?_cons_zero, List.getElem?_cons_succ, if_true, Bool.not_false]
    exact stop (by rw [condCode, if_neg (by simp [hnv])]) (by decide) (hE6 _ _)
  | true =>
  by_cases hop : c.op < 0 ∨ 5 < c.op
  · have e : condCode c = 2 := by rw [condCode, if_pos hnv, if_pos hop]
    by_cases h1 : c.op < 0
    · simp (disch := first | omega | assumption | exact shr_lt (by assumption) | exact ndiff32 (by assumption) | exact below_lt (by omega) | fail) only [wBin_lss, wBin_gtr, wIf_bool, wGuard_false, wUn_not, ldP_cells, cellP_one, getH_same, Option.elim_some, List.getElem?_cons_zero, List.getElem?_cons_succ, decide_true, if_true, if_false, Bool.false_eq_true, Bool.not_true, h1]
      exact stop e (by decide) (hE6 _ _)
    · have h2 : (5 : Int) < c.op := hop.resolve_left h1
      simp (disch := first | omega | assumption | exact shr_lt (by assumption) | exact ndiff32 (by assumption) | exact below_lt (by omega) | fail) only [wBin_lss, wBin_gtr, wIf_bool, wGuard_false, wUn_not, ldP_cells, cellP_one, getH_same, Option.elim_some, List.getElem?_cons_zero, List.getElem?_cons_succ, decide_true, decide_false, if_true, if_false, Bool.false_eq_true, Bool.not_true, h1, h2]
      exact stop e (by decide) (hE6 _ _)
  have h1 : ¬ c.op < 0 := fun h => hop (.inl h)
  have h2 : ¬ (5 : Int) < c.op := fun h => hop (.inr h)
  simp (disch := first | omega | assumption | exact shr_lt (by assumption) | exact ndiff32 (by assumption) | exact below_lt (by omega) | fail) only [wBin_lss, wBin_gtr, wIf_bool, wGuard_false, wUn_not, ldP_cells, cellP_one, getH_same, Option.elim_some, List.getElem?_cons_zero, List.getElem?_cons_succ, decide_false, if_false, Bool.false_eq_true, Bool.not_true, h1, h2, cellP_tail5]
  refine wCall_rule (value88 c.kind c.int c.str _ _) ?_
  rintro _ H7 nx7 ⟨rfl, hE7⟩
  cases hval : valueV c.kind c.int c.str with
  | false =>
    simp (disch := first | omega | assumption | exact shr_lt (by assumption) | exact ndiff32 (by assumption) | exact below_lt (by omega) | fail) only [wIf_bool, wUn_not, if_true, Bool.not_false]
    exact stop (by rw [condCode, if_pos hnv, if_neg hop, if_neg (by simp [hval])]) (by decide) ((hE6 _ _).trans hE7)
  | true =>
    simp (disch := first | omega | assumption | exact shr_lt (by assumption) | exact ndiff32 (by assumption) | exact below_lt (by omega) | fail) only [wIf_bool, wUn_not, if_false, Bool.false_eq_true, Bool.not_true]
    refine hih5 (m5 - 1) _ _ _ (by omega) ⟨i5 + 1, by omega, by simp, fun j u hj hu => ?_, (hE6 _ _).trans hE7⟩
    by_cases hji : j = i5
    · subst hji; rw [hcg] at hu; cases hu; rw [condCode, if_pos hnv, if_neg hop, if_pos hval]
    · exact hz5 j u (by omega) hu
end Go.Proofs.YthbdeaeghipliaaGreatDoor

set_option linter.unusedSimpArgs false
set_option linter.unusedVariables false
set_option linter.unusedSectionVars false
namespace Go.Proofs.YthbdeaeghipliaaGreatDoor
open Go.Clo

/-- The variables collected so far: boxes n0 + 3 (the set) and n0 + 1 (the list), the set's map n0 + 2. -/
structure VS (H : Heap) (n0 nx : Nat) (acc : List ByteArray) : Prop where
  box : getH H (n0 + 3) = some (.cells [.map (some (n0 + 2))] 0)
  vars : ∃ v, getH H (n0 + 1) = some (.cells [v] 0) ∧ Acc (n0 + 4) H nx 1 v acc.length (strs acc)
  set : ∃ S : ByteArray → Bool, SetM H (n0 + 2) S ∧ ∀ s, S s = true ↔ s = nul ∨ s ∈ acc
theorem VS.ext {H : Heap} {n0 nx : Nat} {acc : List ByteArray} {H' : Heap} {nx' : Nat} (h : VS H n0 nx acc) (hn : n0 + 4 ≤ nx) (e : Ext H nx H' nx') : VS H' n0 nx' acc := by
  obtain ⟨v, h1, h2⟩ := h.vars
  obtain ⟨S, h3, h4⟩ := h.set
  exact ⟨by rw [e.get _ (by omega)]; exact h.box, ⟨v, by rw [e.get _ (by omega)]; exact h1, h2.ext e⟩, ⟨S, h3.ext (by omega) e, h4⟩⟩

theorem putL_1Q (a x : Value) : putL [a] 0 [x] = [x] := rfl
theorem dMmap_noneQ (k : Prop) : dMmap none k = k := rfl
theorem strs_snoc (l : List ByteArray) (v : ByteArray) : strs l ++ [.string v] = strs (l ++ [v]) := by simp [strs]
set_option maxHeartbeats 1000000 in
theorem add76 {n0 : Nat} (acc : List ByteArray) (v : ByteArray) (H : Heap) (nx : Nat) (h : VS H n0 nx acc) (hn : n0 + 4 ≤ nx) (hl : acc.length ≤ 1000) :
    Ans Tryz.prog 76 [.string v, .pointer (some ⟨n0 + 3, 0, none⟩), .pointer (some ⟨n0 + 1, 0, none⟩)] H nx fun _ H' nx' => VS H' n0 nx' (addV acc v) ∧ nx ≤ nx' ∧ ∀ i, i ≤ n0 → getH H' i = getH H i := by
  refine spec76 ?_
  unfold F76
  obtain ⟨u, hu, hacc⟩ := h.vars
  obtain ⟨S, hS, hSs⟩ := h.set
  have hb := h.box
  cases hv : S v with
  | true =>
    simp (disch := first | omega | assumption | exact shr_lt (by assumption) | exact ndiff32 (by assumption) | exact below_lt (by omega) | fail) only [wIf_bool, wUn_not, wNew_eq, wLd_none, ldP_cells, cellP_one, forceV_eq, Option.elim_some, List.getElem?_cons_zero, Yld.val, if_false, Bool.false_eq_true, true_and, Bool.not_true, Nat.le_refl, hb, hS.lk, hv]
    rw [addV, if_pos ((hSs v).1 hv)]
    exact ⟨h, fun i _ => trivial⟩
  | false =>
    have hnv : ¬ (v = nul ∨ v ∈ acc) := fun q => by have := (hSs v).2 q; rw [hv] at this; cases this
    simp (disch := first | omega | assumption | exact shr_lt (by assumption) | exact ndiff32 (by assumption) | exact below_lt (by omega) | fail) only [wIf_bool, wUn_not, wNew_eq, wLd_none, ldP_cells, cellP_one, forceV_eq, Option.elim_some, List.getElem?_cons_zero, Yld.val, if_true, true_and, Bool.not_false, Nat.le_refl, hb, hS.lk, hv]
    refine hS.put v ?_
    intro blk hput
    have hne1 : n0 + 3 ≠ n0 + 2 := by omega
    have hu1 : getH (hs H (n0 + 2) (some blk)) (n0 + 1) = some (.cells [u] 0) := by rw [getH_ne _ (by omega)]; exact hu
    have hb1 : getH (hs H (n0 + 2) (some blk)) (n0 + 3) = some (.cells [.map (some (n0 + 2))] 0) := by rw [getH_ne _ (by omega)]; exact hb
    have hlow : ∀ i, i ≤ n0 → getH (hs H (n0 + 2) (some blk)) i = getH H i := fun i hi => getH_ne _ (by omega)
    have hacc1 : Acc (n0 + 4) (hs H (n0 + 2) (some blk)) nx 1 u acc.length (strs acc) := by
      refine ⟨hacc.1, hacc.2.imp id ?_⟩
      rintro ⟨b, h1, h2, h3, h4⟩
      exact ⟨b, h1, h2, h3, by rw [getH_ne _ (by omega)]; exact h4⟩
    generalize hs H (n0 + 2) (some blk) = H1 at hput hu1 hb1 hlow hacc1 ⊢
    have hbs : ∀ (x : ByteArray) (k : List Value → Prop), dBsl 1 1 [.string ⟨#[]⟩] [(0, .string x)] k = k [.string x] := fun x k => rfl
    simp (disch := first | omega | assumption | exact shr_lt (by assumption) | exact ndiff32 (by assumption) | exact below_lt (by omega) | fail) only [ldP_cells, cellP_one, Option.elim_some, List.getElem?_cons_zero, hu1, hbs]
    have hE1 : Ext H1 nx (hs H1 nx (some (.cells [.string v] 0))) (nx + 1) := (Ext.refl _ _).new _ (Nat.le_refl _) (by omega)
    refine wApp_acc (H0 := H1) (lo := n0 + 4) (l := [.string v]) (m := 1) (by omega) (hacc1.ext hE1) (src_new (getH_same _ _ _) rfl (by omega)) (by omega) rfl (by omega) (by omega) ⟨by omega, fun i hi => hE1.get i (by omega)⟩ (by omega) ?_
    intro v' H2 hA2 hE2 _
    have hu2 := (hE2.get (n0 + 1) (by omega)).trans hu1
    have hb2 := (hE2.get (n0 + 3) (by omega)).trans hb1
    obtain ⟨A2, rfl, _⟩ := hA2.sl
    simp (disch := first | omega | assumption | exact shr_lt (by assumption) | exact ndiff32 (by assumption) | exact below_lt (by omega) | fail) only [Nat.zero_add, true_and, wSt_slice, stP_cells, List.length_cons, List.length_nil, Nat.le_refl, hu2, putL_1Q]
    rw [addV, if_neg hnv]
    rw [strs_snoc] at hA2
    refine ⟨⟨by rw [getH_ne _ (by omega)]; exact hb2, ⟨_, getH_same _ _ _, ?_⟩, ⟨_, hput.same ?_, fun s => ?_⟩⟩, by omega, fun i hi => ?_⟩
    · have e : (acc ++ [v]).length = acc.length + 1 := by simp
      rw [e]
      refine ⟨hA2.1, hA2.2.imp id ?_⟩
      rintro ⟨b, h1, h2, h3, h4⟩
      exact ⟨b, h1, h2, h3, by rw [getH_ne _ (by omega)]; exact h4⟩
    · rw [getH_ne _ (by omega)]; exact hE2.get _ (by omega)
    · rw [Bool.or_eq_true, hSs, decide_eq_true_eq, List.mem_append, List.mem_singleton, or_assoc]
    · rw [getH_ne _ (by omega), hE2.get i (by omega), hlow i hi]

theorem foldl_addV_len : ∀ (l acc : List ByteArray), (l.foldl addV acc).length ≤ acc.length + l.length
  | [], acc => by simp
  | v :: l, acc => by
    rw [List.foldl_cons]
    have h1 := foldl_addV_len l (addV acc v)
    have h2 : (addV acc v).length ≤ acc.length + 1 := by
      by_cases h : v = nul ∨ v ∈ acc
      · rw [addV, if_pos h]; omega
      · rw [addV, if_neg h]; simp
    simp only [List.length_cons]; omega
/-- A rule of the sizes that checkItems accepts. -/
structure RuleB (r : RuleR) : Prop where
  atoms : r.atoms.length ≤ 8
  terms : ∀ a ∈ r.atoms, a.terms.length ≤ 6
  conds : r.conds.length ≤ 8
theorem flat_len {r : RuleR} (h : RuleB r) : ∀ i, ((r.atoms.take i).flatMap fun a => a.terms.map TermR.var).length ≤ 48 := by
  intro i
  have : ∀ (l : List AtomR), (∀ a ∈ l, a.terms.length ≤ 6) → (l.flatMap fun a => a.terms.map TermR.var).length ≤ 6 * l.length := by
    intro l
    induction l with
    | nil => simp
    | cons a l ih =>
      intro hl
      have h1 := ih fun b hb => hl b (List.mem_cons_of_mem _ hb)
      have h2 := hl a List.mem_cons_self
      rw [List.flatMap_cons, List.length_append, List.length_map, List.length_cons]; omega
  have h1 := this (r.atoms.take i) fun a ha => h.terms a (List.mem_of_mem_take ha)
  have h2 := h.atoms
  rw [List.length_take] at h1
  omega

set_option maxHeartbeats 2000000 in
theorem vars47 (r : RuleR) (H : Heap) (nx : Nat) (hA : RuleOK H nx r) (hB : RuleB r) : Ans Tryz.prog 47 [.agg ⟨ruleC r⟩] H nx fun v H' nx' => Acc nx H' nx' 1 v (varsOf r).length (strs (varsOf r)) ∧ Ext H nx H' nx' := by
  refine spec47 ?_
  unfold F47
  unfold ruleC
  have hb8 := hB.atoms
  have hc8 := hB.conds
  simp (disch := first | omega | assumption | exact shr_lt (by assumption) | exact ndiff32 (by assumption) | exact below_lt (by omega) | fail) only [wFld_eq, wNew_eq, dBox_agg, oneCells, wLd_none, getH_same, forceV_eq, Yld.val, if_true, Nat.zero_add, Nat.add_zero, true_and, wSt_map, stP_cells, List.length_cons, List.length_nil, Nat.le_refl, dMmap_noneQ]
  generalize hK1 : hs (hs (hs H nx (some (.cells [.slice r.AA r.atoms.length r.ac, .slice r.CA r.conds.length r.cc] 0))) (nx + 1) (some (.cells [.slice none 0 0] 0))) (nx + 1 + 1) (some (.map [] 0)) = K1
  have k1m : getH K1 (nx + 1 + 1) = some (.map [] 0) := by rw [← hK1, getH_same]
  have k1r : getH K1 nx = some (.cells [.slice r.AA r.atoms.length r.ac, .slice r.CA r.conds.length r.cc] 0) := by rw [← hK1, getH_ne _ (by omega), getH_ne _ (by omega), getH_same]
  have k1v : getH K1 (nx + 1) = some (.cells [.slice none 0 0] 0) := by rw [← hK1, getH_ne _ (by omega), getH_same]
  have k1E : ∀ i, i < nx → getH K1 i = getH H i := fun i hi => by rw [← hK1, getH_ne _ (by omega), getH_ne _ (by omega), getH_ne _ (by omega)]
  refine (SetM.nil k1m).put ⟨#[]⟩ ?_
  intro blk hput
  have k2r : getH (hs K1 (nx + 1 + 1) (some blk)) nx = some (.cells [.slice r.AA r.atoms.length r.ac, .slice r.CA r.conds.length r.cc] 0) := by rw [getH_ne _ (by omega)]; exact k1r
  have k2v : getH (hs K1 (nx + 1 + 1) (some blk)) (nx + 1) = some (.cells [.slice none 0 0] 0) := by rw [getH_ne _ (by omega)]; exact k1v
  have k2E : ∀ i, i < nx → getH (hs K1 (nx + 1 + 1) (some blk)) i = getH H i := fun i hi => by rw [getH_ne _ (by omega)]; exact k1E i hi
  generalize hs K1 (nx + 1 + 1) (some blk) = K2 at hput k2r k2v k2E ⊢
  simp (disch := first | omega | assumption | exact shr_lt (by assumption) | exact ndiff32 (by assumption) | exact below_lt (by omega) | fail) only [wLen_slice, ldP_cells, cellP_one, getH_ne, Option.elim_some, List.getElem?_cons_zero, putL_1Q, k2r]
  generalize hK3 : hs (hs K2 (nx + 1 + 1 + 1) (some (.cells [.map none] 0))) (nx + 1 + 1 + 1) (some (.cells [.map (some (nx + 1 + 1))] 0)) = K3
  have k3r : getH K3 nx = some (.cells [.slice r.AA r.atoms.length r.ac, .slice r.CA r.conds.length r.cc] 0) := by rw [← hK3, getH_ne _ (by omega), getH_ne _ (by omega)]; exact k2r
  have k3E : Ext H nx K3 (nx + 4) := ⟨by omega, fun i hi => by rw [← hK3, getH_ne _ (by omega), getH_ne _ (by omega)]; exact k2E i hi⟩
  have vs0 : VS K3 nx (nx + 4) [] := by
    refine ⟨by rw [← hK3, getH_same], ⟨.slice none 0 0, by rw [← hK3, getH_ne _ (by omega), getH_ne _ (by omega)]; exact k2v, Acc.nil _ _ _ _⟩, ⟨_, hput.same (by rw [← hK3, getH_ne _ (by omega), getH_ne _ (by omega)]), fun s => ?_⟩⟩
    simp [nul]
  have hlen4 : nx + 1 + 1 + 1 + 1 = nx + 4 := by omega
  refine wLoop_rule (m := r.atoms.length) (fun m L H' nx' => ∃ i : Nat, m + i = r.atoms.length ∧ L = [.int .i64 (i : Int)] ∧ VS H' nx nx' (((r.atoms.take i).flatMap fun a => a.terms.map TermR.var).foldl addV []) ∧ nx + 4 ≤ nx' ∧ ∀ q, q ≤ nx → getH H' q = getH K3 q) ?_ ⟨0, rfl, rfl, by simpa [hlen4] using vs0, by omega, fun q _ => rfl⟩
  rintro m ih L H2 nx2 ⟨i, hm, rfl, hvs, hn2, hlow⟩ hih
  have g2 := (hlow nx (Nat.le_refl _)).trans k3r
  have hE2 : Ext H nx H2 nx2 := ⟨by omega, fun q hq => (hlow q (by omega)).trans (k3E.get q hq)⟩
  simp (disch := first | omega | assumption | exact shr_lt (by assumption) | exact ndiff32 (by assumption) | exact below_lt (by omega) | fail) only [List.getD_cons_zero, wBin_lss, wIf_bool, wBin_add64]
  by_cases hi : i < r.atoms.length
  case pos =>
    have hi' : (i : Int) < (r.atoms.length : Int) := by omega
    obtain ⟨a, ha⟩ : ∃ a, r.atoms[i]? = some a := ⟨_, List.getElem?_eq_getElem hi⟩
    have ham := List.mem_of_getElem? ha
    have ht6 := hB.terms a ham
    obtain ⟨b, o, row, hAA, hb, hrow, _, hcell⟩ := Sl.elem (hA.ext hE2).atoms atomC_len (by omega) ha
    unfold atomC at hcell
    rw [hAA]
    simp (disch := first | omega | assumption | exact shr_lt (by assumption) | exact ndiff32 (by assumption) | exact below_lt (by omega) | fail) only [wLen_slice, oneCells, wLd_3, ldP_cells, cellP_one, getH_same, Option.elim_some, List.getElem?_cons_zero, List.getElem?_cons_succ, decide_true, if_true, Nat.zero_add, true_and, and_self, wIdx_slice, Int.toNat_natCast, wSt_agg, stP_cells, List.length_cons, List.length_nil, Nat.le_refl, Nat.reduceAdd, hi', ldP_row hrow, hcell, putL_lit3]
    have hE3 : Ext H2 nx2 (hs (hs H2 nx2 (some (.cells [.bool false, .string ⟨#[]⟩, .slice none 0 0] 0))) nx2 (some (.cells [.bool a.neg, .string a.rel, .slice a.TA a.terms.length a.tc] 0))) (nx2 + 1) := ((Ext.refl H2 nx2).new _ (Nat.le_refl _) (by omega) : Ext H2 nx2 _ (nx2 + 1)).hs (Nat.le_refl _)
    have hvs3 := hvs.ext hn2 hE3
    have hlow3 : ∀ q, q ≤ nx → getH (hs (hs H2 nx2 (some (.cells [.bool false, .string ⟨#[]⟩, .slice none 0 0] 0))) nx2 (some (.cells [.bool a.neg, .string a.rel, .slice a.TA a.terms.length a.tc] 0))) q = getH K3 q := fun q hq => (hE3.get q (by omega)).trans (hlow q hq)
    generalize hs (hs H2 nx2 (some (.cells [.bool false, .string ⟨#[]⟩, .slice none 0 0] 0))) nx2 (some (.cells [.bool a.neg, .string a.rel, .slice a.TA a.terms.length a.tc] 0)) = H3 at hE3 hvs3 hlow3 ⊢
    refine wLoop_rule (m := a.terms.length) (fun m L H' nx' => ∃ j : Nat, m + j = a.terms.length ∧ L = [.int .i64 (j : Int)] ∧ VS H' nx nx' (((a.terms.take j).map TermR.var).foldl addV (((r.atoms.take i).flatMap fun a => a.terms.map TermR.var).foldl addV [])) ∧ nx + 4 ≤ nx' ∧ ∀ q, q ≤ nx → getH H' q = getH K3 q) ?_ ⟨0, rfl, rfl, by simpa using hvs3, by omega, hlow3⟩
    rintro m4 ih4 L4 H4 nx4 ⟨j, hm4, rfl, hvs4, hn4, hlow4⟩ hih4
    have hE4 : Ext H nx H4 nx4 := ⟨by omega, fun q hq => (hlow4 q (by omega)).trans (k3E.get q hq)⟩
    simp (disch := first | omega | assumption | exact shr_lt (by assumption) | exact ndiff32 (by assumption) | exact below_lt (by omega) | fail) only [List.getD_cons_zero, wBin_lss, wIf_bool, wBin_add64]
    by_cases hj : j < a.terms.length
    case neg =>
      have hj' : ¬ (j : Int) < (a.terms.length : Int) := by omega
      simp (disch := first | omega | assumption | exact shr_lt (by assumption) | exact ndiff32 (by assumption) | exact below_lt (by omega) | fail) only [decide_false, if_false, Bool.false_eq_true, hj']
      refine hih (m - 1) _ _ _ (by omega) ⟨i + 1, by omega, by simp, ?_, hn4, hlow4⟩
      rw [take_snocB ha, List.flatMap_append, List.foldl_append]
      have e : a.terms.take j = a.terms := List.take_of_length_le (by omega)
      rw [e] at hvs4
      simpa using hvs4
    have hj' : (j : Int) < (a.terms.length : Int) := by omega
    obtain ⟨t, ht⟩ : ∃ t, a.terms[j]? = some t := ⟨_, List.getElem?_eq_getElem hj⟩
    obtain ⟨b5, o5, row5, hTA, hb5, hrow5, _, hcell5⟩ := Sl.elem (show Sl H4 nx4 a.TA (a.terms.flatMap termC) from (hA.terms a ham).ext hE4) termC_len (by omega) ht
    unfold termC at hcell5
    rw [hTA]
    simp (disch := first | omega | assumption | exact shr_lt (by assumption) | exact ndiff32 (by assumption) | exact below_lt (by omega) | fail) only [oneCells, ldP_cells, cellP_one, getH_same, Option.elim_some, List.getElem?_cons_zero, decide_true, if_true, Nat.zero_add, true_and, and_self, wIdx_slice, Int.toNat_natCast, wSt_agg, stP_cells, List.length_cons, List.length_nil, Nat.le_refl, Nat.reduceAdd, hj', ldP_row hrow5, hcell5, wLd_4, putL_lit4]
    have hE5 : Ext H4 nx4 (hs (hs H4 nx4 (some (.cells [.string ⟨#[]⟩, .int .i64 0, .int .i64 0, .string ⟨#[]⟩] 0))) nx4 (some (.cells [.string t.var, .int .i64 t.kind, .int .i64 t.int, .string t.str] 0))) (nx4 + 1) := ((Ext.refl H4 nx4).new _ (Nat.le_refl _) (by omega) : Ext H4 nx4 _ (nx4 + 1)).hs (Nat.le_refl _)
    have hl4 : ((((a.terms.take j).map TermR.var).foldl addV (((r.atoms.take i).flatMap fun a => a.terms.map TermR.var).foldl addV []))).length ≤ 1000 := by
      have h1 := foldl_addV_len ((a.terms.take j).map TermR.var) (((r.atoms.take i).flatMap fun a => a.terms.map TermR.var).foldl addV [])
      have h2 := foldl_addV_len ((r.atoms.take i).flatMap fun a => a.terms.map TermR.var) []
      have h3 := flat_len hB i
      have h4 := hB.terms a ham
      rw [List.length_map, List.length_take] at h1
      simp only [List.length_nil] at h2
      omega
    refine wCallV_rule (first := []) (args := [.string t.var]) (cap := [.pointer (some ⟨nx + 3, 0, none⟩), .pointer (some ⟨nx + 1, 0, none⟩)]) (add76 _ t.var _ _ (hvs4.ext hn4 hE5) (by omega) hl4) ?_
    rintro _ H6 nx6 ⟨hvs6, hn6, hlow6⟩
    try simp (disch := first | omega | assumption | exact shr_lt (by assumption) | exact ndiff32 (by assumption) | exact below_lt (by omega) | fail) only [List.getD_cons_zero, List.getD_cons_succ, wBin_lss, wBin_leq, wBin_gtr, wBin_geq, wBin_eql, wBin_neq, wIf_bool, wGuard_true, wGuard_false, wPick_true, wPick_false, wUn_not, wFld_eq, wExt_eq, wPart_one, wPart_agg, wLen_slice, wLen_string, wNew_eq, wNm_eq, dBox_agg, dBox_int, dBox_slice, dBox_string, dBox_bool, dBox_map, dBox_ptr, oneCells, wLd_none, wLd_2, wLd_3, wLd_32, ldP_cells, ldP_rom, cellP_one, getH_same, getH_ne, forceV_eq, forceN_eq, hsK_eq, Option.elim_some, List.getElem?_cons_zero, List.getElem?_cons_succ, Yld.val, decide_true, decide_false, if_true, if_false, Bool.false_eq_true, Nat.zero_add, Nat.add_zero, and_true, true_and, or_false, Bool.not_true, Bool.not_false, and_self, wBin_add64, wBin_sub64, wIdx_slice, wIdx_array, wNilc_eq, Int.toNat_natCast, Nat.mul_one, Nat.zero_mul, wSt_agg, wSt_int, wSt_bool, wSt_string, wSt_slice, wSt_ptr, wSt_map, wSt_func, stP_cells, bit_one, bit_zero, bit_one', bit_zero', wBin_shr32, wBin_and1, wBin_rem2, wBin_andNot32, wBin_or32, wBin_and32, wBin_shl32, u32_eq_zero, u32_ne_zero, List.length_cons, List.length_nil, Nat.le_refl, Nat.reduceAdd, Nat.reduceMul, Nat.reduceLeDiff, Int.toNat_zero, Int.toNat_one]
    refine hih4 (m4 - 1) _ _ _ (by omega) ⟨j + 1, by omega, by simp, ?_, by omega, fun q hq => (hlow6 q hq).trans ((hE5.get q (by omega)).trans (hlow4 q hq))⟩
    rw [take_snocB ht, List.map_append, List.foldl_append]
    exact hvs6
  have hi' : ¬ (i : Int) < (r.atoms.length : Int) := by omega
  rw [List.take_of_length_le (by omega)] at hvs
  simp (disch := first | omega | assumption | exact shr_lt (by assumption) | exact ndiff32 (by assumption) | exact below_lt (by omega) | fail) only [wLen_slice, ldP_cells, cellP_one, Option.elim_some, List.getElem?_cons_zero, List.getElem?_cons_succ, decide_false, if_false, Bool.false_eq_true, hi', g2]
  refine wLoop_rule (m := r.conds.length) (fun m L H' nx' => ∃ j : Nat, m + j = r.conds.length ∧ L = [.int .i64 (j : Int)] ∧ VS H' nx nx' (((r.conds.take j).map CondR.var).foldl addV ((termVars r).foldl addV [])) ∧ nx + 4 ≤ nx' ∧ ∀ q, q ≤ nx → getH H' q = getH K3 q) ?_ ⟨0, rfl, rfl, by simpa [termVars] using hvs, by omega, hlow⟩
  rintro m4 ih4 L4 H4 nx4 ⟨j, hm4, rfl, hvs4, hn4, hlow4⟩ hih4
  have hE4 : Ext H nx H4 nx4 := ⟨by omega, fun q hq => (hlow4 q (by omega)).trans (k3E.get q hq)⟩
  simp (disch := first | omega | assumption | exact shr_lt (by assumption) | exact ndiff32 (by assumption) | exact below_lt (by omega) | fail) only [List.getD_cons_zero, wBin_lss, wIf_bool, wBin_add64]
  by_cases hj : j < r.conds.length
  case neg =>
    have hj' : ¬ (j : Int) < (r.conds.length : Int) := by omega
    rw [List.take_of_length_le (by omega), ← List.foldl_append] at hvs4
    obtain ⟨v, hv, hacc⟩ := hvs4.vars
    simp (disch := first | omega | assumption | exact shr_lt (by assumption) | exact ndiff32 (by assumption) | exact below_lt (by omega) | fail) only [ldP_cells, cellP_one, Option.elim_some, List.getElem?_cons_zero, decide_false, if_false, Bool.false_eq_true, hj', hv]
    refine ⟨?_, hE4⟩
    refine ⟨hacc.1, hacc.2.imp id ?_⟩
    rintro ⟨b, h1, h2, h3, h4⟩
    exact ⟨b, by omega, h2, h3, h4⟩
  have hj' : (j : Int) < (r.conds.length : Int) := by omega
  obtain ⟨c, hc⟩ : ∃ c, r.conds[j]? = some c := ⟨_, List.getElem?_eq_getElem hj⟩
  obtain ⟨b5, o5, row5, hCA, hb5, hrow5, _, hcell5⟩ := Sl.elem (hA.ext hE4).conds condC_len (by omega) hc
  unfold condC at hcell5
  rw [hCA]
  simp (disch := first | omega | assumption | exact shr_lt (by assumption) | exact ndiff32 (by assumption) | exact below_lt (by omega) | fail) only [oneCells, ldP_cells, cellP_one, getH_same, Option.elim_some, List.getElem?_cons_zero, decide_true, if_true, Nat.zero_add, true_and, and_self, wIdx_slice, Int.toNat_natCast, wSt_agg, stP_cells, List.length_cons, List.length_nil, Nat.le_refl, Nat.reduceAdd, hj', ldP_row hrow5, hcell5, wLd_5, putL_lit5]
  have hE5 : Ext H4 nx4 (hs (hs H4 nx4 (some (.cells [.string ⟨#[]⟩, .int .i64 0, .int .i64 0, .int .i64 0, .string ⟨#[]⟩] 0))) nx4 (some (.cells [.string c.var, .int .i64 c.op, .int .i64 c.kind, .int .i64 c.int, .string c.str] 0))) (nx4 + 1) := ((Ext.refl H4 nx4).new _ (Nat.le_refl _) (by omega) : Ext H4 nx4 _ (nx4 + 1)).hs (Nat.le_refl _)
  have hl4 : ((((r.conds.take j).map CondR.var).foldl addV ((termVars r).foldl addV []))).length ≤ 1000 := by
    have h1 := foldl_addV_len ((r.conds.take j).map CondR.var) ((termVars r).foldl addV [])
    have h2 := foldl_addV_len (termVars r) []
    have h3 := flat_len hB r.atoms.length
    rw [List.take_length] at h3
    have h4 := hB.conds
    rw [List.length_map, List.length_take] at h1
    simp only [List.length_nil] at h2
    unfold termVars at h1 h2 ⊢
    omega
  refine wCallV_rule (first := []) (args := [.string c.var]) (cap := [.pointer (some ⟨nx + 3, 0, none⟩), .pointer (some ⟨nx + 1, 0, none⟩)]) (add76 _ c.var _ _ (hvs4.ext hn4 hE5) (by omega) hl4) ?_
  rintro _ H6 nx6 ⟨hvs6, hn6, hlow6⟩
  try simp (disch := first | omega | assumption | exact shr_lt (by assumption) | exact ndiff32 (by assumption) | exact below_lt (by omega) | fail) only [List.getD_cons_zero, List.getD_cons_succ, wBin_lss, wBin_leq, wBin_gtr, wBin_geq, wBin_eql, wBin_neq, wIf_bool, wGuard_true, wGuard_false, wPick_true, wPick_false, wUn_not, wFld_eq, wExt_eq, wPart_one, wPart_agg, wLen_slice, wLen_string, wNew_eq, wNm_eq, dBox_agg, dBox_int, dBox_slice, dBox_string, dBox_bool, dBox_map, dBox_ptr, oneCells, wLd_none, wLd_2, wLd_3, wLd_32, ldP_cells, ldP_rom, cellP_one, getH_same, getH_ne, forceV_eq, forceN_eq, hsK_eq, Option.elim_some, List.getElem?_cons_zero, List.getElem?_cons_succ, Yld.val, decide_true, decide_false, if_true, if_false, Bool.false_eq_true, Nat.zero_add, Nat.add_zero, and_true, true_and, or_false, Bool.not_true, Bool.not_false, and_self, wBin_add64, wBin_sub64, wIdx_slice, wIdx_array, wNilc_eq, Int.toNat_natCast, Nat.mul_one, Nat.zero_mul, wSt_agg, wSt_int, wSt_bool, wSt_string, wSt_slice, wSt_ptr, wSt_map, wSt_func, stP_cells, bit_one, bit_zero, bit_one', bit_zero', wBin_shr32, wBin_and1, wBin_rem2, wBin_andNot32, wBin_or32, wBin_and32, wBin_shl32, u32_eq_zero, u32_ne_zero, List.length_cons, List.length_nil, Nat.le_refl, Nat.reduceAdd, Nat.reduceMul, Nat.reduceLeDiff, Int.toNat_zero, Int.toNat_one]
  refine hih4 (m4 - 1) _ _ _ (by omega) ⟨j + 1, by omega, by simp, ?_, by omega, fun q hq => (hlow6 q hq).trans ((hE5.get q (by omega)).trans (hlow4 q hq))⟩
  rw [take_snocB hc, List.map_append, List.foldl_append]
  exact hvs6
end Go.Proofs.YthbdeaeghipliaaGreatDoor

set_option linter.unusedSimpArgs false
set_option linter.unusedVariables false
set_option linter.unusedSectionVars false
namespace Go.Proofs.YthbdeaeghipliaaGreatDoor
open Go.Clo
set_option maxRecDepth 100000
/-! 70: slices.Clone[[]string,string] -/
def d70 : D :=
  (.seq
    (.ops [
        (none, [⟨none, some 2, .p (.mv (.c (.slice none 0 0)))⟩])] (.one .nil))
    (.seq
      (.seq
        (.ops [
            (none, [⟨none, some 3, .p (.mv (.s 0))⟩,
            ⟨none, some 4, .p (.vf (.eqn false (.slice 9)) [.s 3, .c (.slice none 0 0)])⟩])] (.one .nil))
        (.cond (.s 4)
          (.seq
            (.ops [
                (none, [⟨none, some 2, .p (.mv (.c (.slice none 0 0)))⟩])] (.one .nil))
            .ret)
          .skip))
      (.seq
        (.ops [
            (none, [⟨none, some 5, .a (.bsl 0 1 [.string ⟨#[]⟩] [])⟩,
            ⟨none, some 6, .p (.mv (.s 0))⟩,
            ⟨none, some 7, .e (.app (.s 5) (.s 6) 1 16)⟩,
            ⟨none, some 2, .p (.mv (.s 7))⟩])] (.one .nil))
        .ret)))
theorem cfn70 : cfn Tryz.prog 70 = some ⟨8, 4, d70.erase, [(.s 2, none)]⟩ := by kernel_rfl
theorem ok70 : d70.ok 8 4 = true := by kernel_rfl
noncomputable def F70 (a0 : Value) (H : Heap) (nx : Nat) (k : EP) : Prop :=
  wVf (.eqn false (.slice 9)) [a0, (.slice none 0 0)] fun t4_1 =>
  wIf t4_1 (
    forceV (.slice none 0 0) fun tv_2 => k tv_2 H nx) (
    dBsl 0 1 [.string ⟨#[]⟩] [] fun tc_3 => wNew (.cells tc_3 0) (.slice 0 0) H nx fun t5_4 H1 nx1 =>
    wApp t5_4 a0 1 16 H1 nx1 fun t7_5 H2 nx2 =>
    forceV t7_5 fun tv_6 => k tv_6 H2 nx2)
theorem eq70 (a0 : Value) (H : Heap) (nx : Nat) (k : EP) : wBody Tryz.prog 8 4 d70 [(.s 2, none)] [a0] H nx k = F70 a0 H nx k := by kernel_rfl
theorem spec70 {a0 : Value} {H : Heap} {nx : Nat} {k : EP} (h : F70 a0 H nx k) : Ans Tryz.prog 70 [a0] H nx k :=
  spec_of_body mixed namesOK cfn70 ok70 (by simp) ((eq70 a0 H nx k).symm ▸ h)

/-! 73: slices.Concat[[]string,string] -/
def d73 : D :=
  (.seq
    (.ops [
        (none, [⟨none, some 2, .p (.mv (.c (.slice none 0 0)))⟩])] (.one .nil))
    (.seq
      (.ops [
          (none, [⟨none, some 3, .p (.mv (.c (.int .i64 0)))⟩])] (.one .nil))
      (.seq
        (.seq
          (.ops [
              (none, [⟨none, some 9, .p (.mv (.s 0))⟩,
              ⟨none, some 10, .r (.len (.s 9) 0)⟩,
              ⟨none, some 11, .p (.mv (.c (.int .i64 0)))⟩])] (.one .nil))
          (.block 0
            (.loop [3, 11] [5, 12, 13, 14, 15, 16, 17, 18, 19, 20, 21, 22]
              (.seq
                (.ops [
                    (none, [⟨none, some 12, .p (.bin .lss (.s 11) (.s 10))⟩])] (.one .nil))
                (.seq
                  (.cond (.s 12)
                    .skip
                    (.exit 0))
                  (.join [3] [5, 13, 14, 15, 16, 17, 18, 19, 20, 21]
                    (.block 1
                      (.seq
                        (.ops [
                            (none, [⟨none, some 13, .p (.idx (.s 9) (.s 11) none 1)⟩,
                            ⟨none, some 14, .r (.ld (.s 13) none)⟩,
                            ⟨none, some 5, .p (.mv (.s 14))⟩])] (.one .nil))
                        (.seq
                          (.ops [
                              (none, [⟨none, some 15, .p (.mv (.s 3))⟩,
                              ⟨none, some 16, .p (.mv (.s 5))⟩,
                              ⟨none, some 17, .r (.len (.s 16) 0)⟩,
                              ⟨none, some 18, .p (.bin .add (.s 15) (.s 17))⟩,
                              ⟨none, some 3, .p (.mv (.s 18))⟩])] (.one .nil))
                          (.seq
                            (.ops [
                                (none, [⟨none, some 19, .p (.mv (.s 3))⟩,
                                ⟨none, some 20, .p (.bin .lss (.s 19) (.c (.int .i64 0)))⟩])] (.one .nil))
                            (.cond (.s 20)
                              (.ops [
                                  (none, [⟨none, some 21, .p (.mki 9 (.c (.string ⟨#[108, 101, 110, 32, 111, 117, 116, 32, 111, 102, 32, 114, 97, 110, 103, 101]⟩)))⟩,
                                  ⟨none, none, .p (.vf .bad [])⟩])] (.one .nil))
                              .skip)))))
                    (.ops [
                        (none, [⟨none, some 22, .p (.bin .add (.s 11) (.c (.int .i64 1)))⟩,
                        ⟨none, some 11, .p (.mv (.s 22))⟩])] (.one .nil))))))))
        (.seq
          (.ops [
              (none, [⟨none, some 23, .p (.mv (.s 3))⟩,
              ⟨none, some 24, .e (.call (.c (.func (.func 101) ⟨[]⟩ ⟨[]⟩)) [.c (.slice none 0 0), .s 23])⟩,
              ⟨none, some 6, .p (.mv (.s 24))⟩])] (.one .nil))
          (.seq
            (.seq
              (.ops [
                  (none, [⟨none, some 25, .p (.mv (.s 0))⟩,
                  ⟨none, some 26, .r (.len (.s 25) 0)⟩,
                  ⟨none, some 27, .p (.mv (.c (.int .i64 0)))⟩])] (.one .nil))
              (.block 2
                (.loop [6, 27] [8, 28, 29, 30, 31, 32, 33, 34]
                  (.seq
                    (.ops [
                        (none, [⟨none, some 28, .p (.bin .lss (.s 27) (.s 26))⟩])] (.one .nil))
                    (.seq
                      (.cond (.s 28)
                        .skip
                        (.exit 2))
                      (.seq
                        (.block 3
                          (.seq
                            (.ops [
                                (none, [⟨none, some 29, .p (.idx (.s 25) (.s 27) none 1)⟩,
                                ⟨none, some 30, .r (.ld (.s 29) none)⟩,
                                ⟨none, some 8, .p (.mv (.s 30))⟩])] (.one .nil))
                            (.ops [
                                (none, [⟨none, some 31, .p (.mv (.s 6))⟩,
                                ⟨none, some 32, .p (.mv (.s 8))⟩,
                                ⟨none, some 33, .e (.app (.s 31) (.s 32) 1 16)⟩,
                                ⟨none, some 6, .p (.mv (.s 33))⟩])] (.one .nil))))
                        (.ops [
                            (none, [⟨none, some 34, .p (.bin .add (.s 27) (.c (.int .i64 1)))⟩,
                            ⟨none, some 27, .p (.mv (.s 34))⟩])] (.one .nil))))))))
            (.seq
              (.ops [
                  (none, [⟨none, some 35, .p (.mv (.s 6))⟩,
                  ⟨none, some 2, .p (.mv (.s 35))⟩])] (.one .nil))
              .ret))))))
theorem cfn73 : cfn Tryz.prog 73 = some ⟨36, 6, d73.erase, [(.s 2, none)]⟩ := by kernel_rfl
theorem ok73 : d73.ok 36 6 = true := by kernel_rfl
noncomputable def F73 (a0 : Value) (H : Heap) (nx : Nat) (k : EP) : Prop :=
  wLen a0 0 H fun t10_1 =>
  wLoop (fun tih_2 tL_3 H1 nx1 =>
    wBin .lss (tL_3.getD 1 undef) t10_1 fun t12_4 =>
    wIf t12_4 (
      wJoin (fun tj_5 =>
        wIdx a0 (tL_3.getD 1 undef) none 1 fun t13_7 =>
        wLd t13_7 none H1 fun t14_8 =>
        wLen t14_8 0 H1 fun t17_9 =>
        wBin .add (tL_3.getD 0 undef) t17_9 fun t18_10 =>
        wBin .lss t18_10 (.int .i64 0) fun t20_11 =>
        wIf t20_11 (
          wVf .bad [] fun u_12 =>
          tj_5 [t18_10] H1 nx1) (
          tj_5 [t18_10] H1 nx1)) (fun tL_6 H2 nx2 =>
        wBin .add (tL_3.getD 1 undef) (.int .i64 1) fun t22_13 =>
        tih_2 [(tL_6.getD 0 undef), t22_13] H2 nx2)) (
      wCall Tryz.prog 101 [(.slice none 0 0), (tL_3.getD 0 undef)] H1 nx1 fun t24_14 H3 nx3 =>
      wLen a0 0 H3 fun t26_15 =>
      wLoop (fun tih_16 tL_17 H4 nx4 =>
        wBin .lss (tL_17.getD 1 undef) t26_15 fun t28_18 =>
        wIf t28_18 (
          wIdx a0 (tL_17.getD 1 undef) none 1 fun t29_19 =>
          wLd t29_19 none H4 fun t30_20 =>
          wApp (tL_17.getD 0 undef) t30_20 1 16 H4 nx4 fun t33_21 H5 nx5 =>
          wBin .add (tL_17.getD 1 undef) (.int .i64 1) fun t34_22 =>
          tih_16 [t33_21, t34_22] H5 nx5) (
          forceV (tL_17.getD 0 undef) fun tv_23 => k tv_23 H4 nx4)) [t24_14, (.int .i64 0)] H3 nx3)) [(.int .i64 0), (.int .i64 0)] H nx
theorem eq73 (a0 : Value) (H : Heap) (nx : Nat) (k : EP) : wBody Tryz.prog 36 6 d73 [(.s 2, none)] [a0] H nx k = F73 a0 H nx k := by kernel_rfl
theorem spec73 {a0 : Value} {H : Heap} {nx : Nat} {k : EP} (h : F73 a0 H nx k) : Ans Tryz.prog 73 [a0] H nx k :=
  spec_of_body mixed namesOK cfn73 ok73 (by simp) ((eq73 a0 H nx k).symm ▸ h)

/-! 43: ordinal/ast.checkRules -/
def d43 : D :=
  (.seq
    (.ops [
        (none, [⟨none, some 1, .a (.box (.s 0))⟩,
        ⟨none, some 2, .p (.mv (.c (.int .i64 0)))⟩])] (.one .nil))
    (.seq
      (.ops [
          (none, [⟨none, some 11, .p (.fld (.s 1) 0)⟩,
          ⟨none, some 12, .r (.ld (.s 11) none)⟩,
          ⟨none, some 13, .e (.call (.c (.func (.func 70) ⟨[]⟩ ⟨[]⟩)) [.s 12])⟩,
          ⟨none, some 3, .p (.mv (.s 13))⟩])] (.one .nil))
      (.join [3] [14, 15, 16, 17, 18, 19, 20, 21]
        (.seq
          (.ops [
              (none, [⟨none, some 14, .p (.fld (.s 1) 2)⟩,
              ⟨none, some 15, .r (.ld (.s 14) none)⟩,
              ⟨none, some 16, .p (.bin .neq (.s 15) (.c (.string ⟨#[]⟩)))⟩])] (.one .nil))
          (.cond (.s 16)
            (.ops [
                (none, [⟨none, some 17, .p (.mv (.s 3))⟩,
                ⟨none, some 18, .p (.fld (.s 1) 2)⟩,
                ⟨none, some 19, .r (.ld (.s 18) none)⟩,
                ⟨none, some 20, .a (.bsl 1 1 [.string ⟨#[]⟩] [(0, .s 19)])⟩,
                ⟨none, some 21, .e (.app (.s 17) (.s 20) 1 16)⟩,
                ⟨none, some 3, .p (.mv (.s 21))⟩])] (.one .nil))
            .skip))
        (.seq
          (.ops [
              (none, [⟨none, some 4, .p (.mv (.c (.int .i64 0)))⟩])] (.one .nil))
          (.seq
            .skip
            (.seq
              (.seq
                (.ops [
                    (none, [⟨none, some 22, .p (.fld (.s 1) 3)⟩,
                    ⟨none, some 23, .r (.ld (.s 22) none)⟩,
                    ⟨none, some 24, .r (.len (.s 23) 0)⟩,
                    ⟨none, some 25, .p (.mv (.c (.int .i64 0)))⟩])] (.one .nil))
                (.block 0
                  (.loop [4, 25] [6, 7, 8, 10, 26, 27, 28, 29, 30, 31, 32, 33, 34, 35, 36, 37, 38, 39, 40, 41, 42, 43, 44, 45, 46, 47, 48, 49, 50, 51, 52, 53, 54]
                    (.seq
                      (.ops [
                          (none, [⟨none, some 26, .p (.bin .lss (.s 25) (.s 24))⟩])] (.one .nil))
                      (.seq
                        (.cond (.s 26)
                          .skip
                          (.exit 0))
                        (.seq
                          (.block 1
                            (.seq
                              (.ops [
                                  (none, [⟨none, some 27, .p (.idx (.s 23) (.s 25) none 2)⟩,
                                  ⟨none, some 28, .r (.ld (.s 27) (some 2))⟩,
                                  ⟨none, some 6, .a (.alloc [.slice none 0 0, .slice none 0 0])⟩,
                                  ⟨none, none, .e (.st (.s 6) (.s 28) 2)⟩])] (.one .nil))
                              (.seq
                                (.seq
                                  (.ops [
                                      (none, [⟨none, some 29, .r (.ld (.s 6) (some 2))⟩,
                                      ⟨none, some 30, .e (.call (.c (.func (.func 71) ⟨[]⟩ ⟨[]⟩)) [.s 29])⟩,
                                      ⟨none, some 4, .p (.mv (.s 30))⟩])] (.one .nil))
                                  (.seq
                                    (.ops [
                                        (none, [⟨none, some 31, .p (.mv (.s 4))⟩,
                                        ⟨none, some 32, .p (.bin .neq (.s 31) (.c (.int .i64 0)))⟩])] (.one .nil))
                                    (.cond (.s 32)
                                      (.exit 0)
                                      .skip)))
                                (.seq
                                  (.ops [
                                      (none, [⟨none, some 33, .r (.ld (.s 6) (some 2))⟩,
                                      ⟨none, some 34, .e (.call (.c (.func (.func 47) ⟨[]⟩ ⟨[]⟩)) [.s 33])⟩,
                                      ⟨none, some 7, .p (.mv (.s 34))⟩])] (.one .nil))
                                  (.seq
                                    (.seq
                                      (.ops [
                                          (none, [⟨none, some 35, .p (.mv (.s 7))⟩,
                                          ⟨none, some 36, .r (.len (.s 35) 0)⟩,
                                          ⟨none, some 37, .p (.bin .gtr (.s 36) (.c (.int .i64 8)))⟩])] (.one .nil))
                                      (.cond (.s 37)
                                        (.seq
                                          (.ops [
                                              (none, [⟨none, some 4, .p (.mv (.c (.int .i64 12)))⟩])] (.one .nil))
                                          (.exit 0))
                                        .skip))
                                    (.seq
                                      (.ops [
                                          (none, [⟨none, some 38, .r (.ld (.s 6) (some 2))⟩,
                                          ⟨none, some 39, .e (.call (.c (.func (.func 72) ⟨[]⟩ ⟨[]⟩)) [.s 38])⟩,
                                          ⟨none, some 8, .p (.mv (.s 39))⟩])] (.one .nil))
                                      (.seq
                                        (.ops [
                                            (none, [⟨none, some 40, .p (.mv (.s 3))⟩,
                                            ⟨none, some 41, .p (.mv (.s 7))⟩,
                                            ⟨none, some 42, .a (.bsl 2 1 [.slice none 0 0] [(0, .s 40), (1, .s 41)])⟩,
                                            ⟨none, some 43, .e (.call (.c (.func (.func 73) ⟨[]⟩ ⟨[]⟩)) [.s 42])⟩,
                                            ⟨none, some 44, .r (.len (.s 43) 0)⟩,
                                            ⟨none, some 45, .p (.mv (.c (.int .i64 0)))⟩])] (.one .nil))
                                        (.block 2
                                          (.loop [4, 45] [10, 46, 47, 48, 49, 50, 51, 52, 53]
                                            (.seq
                                              (.ops [
                                                  (none, [⟨none, some 46, .p (.bin .lss (.s 45) (.s 44))⟩])] (.one .nil))
                                              (.seq
                                                (.cond (.s 46)
                                                  .skip
                                                  (.exit 2))
                                                (.seq
                                                  (.block 3
                                                    (.seq
                                                      (.ops [
                                                          (none, [⟨none, some 47, .p (.idx (.s 43) (.s 45) none 1)⟩,
                                                          ⟨none, some 48, .r (.ld (.s 47) none)⟩,
                                                          ⟨none, some 10, .p (.mv (.s 48))⟩])] (.one .nil))
                                                      (.seq
                                                        (.ops [
                                                            (none, [⟨none, some 49, .p (.mv (.s 8))⟩,
                                                            ⟨none, some 50, .p (.mv (.s 10))⟩,
                                                            ⟨none, some 51, .r (.lk .string (.bool false) (.s 49) (.s 50) false)⟩,
                                                            ⟨none, some 52, .p (.un .not (.s 51))⟩])] (.one .nil))
                                                        (.cond (.s 52)
                                                          (.seq
                                                            (.ops [
                                                                (none, [⟨none, some 4, .p (.mv (.c (.int .i64 22)))⟩])] (.one .nil))
                                                            (.exit 0))
                                                          .skip))))
                                                  (.ops [
                                                      (none, [⟨none, some 53, .p (.bin .add (.s 45) (.c (.int .i64 1)))⟩,
                                                      ⟨none, some 45, .p (.mv (.s 53))⟩])] (.one .nil))))))))))))))
                          (.ops [
                              (none, [⟨none, some 54, .p (.bin .add (.s 25) (.c (.int .i64 1)))⟩,
                              ⟨none, some 25, .p (.mv (.s 54))⟩])] (.one .nil))))))))
              (.seq
                (.ops [
                    (none, [⟨none, some 55, .p (.mv (.s 4))⟩,
                    ⟨none, some 2, .p (.mv (.s 55))⟩])] (.one .nil))
                .ret)))))))
theorem cfn43 : cfn Tryz.prog 43 = some ⟨56, 6, d43.erase, [(.s 2, none)]⟩ := by kernel_rfl
theorem ok43 : d43.ok 56 6 = true := by kernel_rfl
noncomputable def F43 (a0 : Value) (H : Heap) (nx : Nat) (k : EP) : Prop :=
  dBox a0 fun tc_1 => wNew (.cells tc_1 0) .ptr H nx fun t1_2 H1 nx1 =>
  wFld t1_2 0 fun t11_3 =>
  wLd t11_3 none H1 fun t12_4 =>
  wCall Tryz.prog 70 [t12_4] H1 nx1 fun t13_5 H2 nx2 =>
  wJoin (fun tj_6 =>
    wFld t1_2 2 fun t14_8 =>
    wLd t14_8 none H2 fun t15_9 =>
    wBin .neq t15_9 (.string ⟨#[]⟩) fun t16_10 =>
    wIf t16_10 (
      wFld t1_2 2 fun t18_11 =>
      wLd t18_11 none H2 fun t19_12 =>
      dBsl 1 1 [.string ⟨#[]⟩] [(0, t19_12)] fun tc_13 => wNew (.cells tc_13 0) (.slice 1 1) H2 nx2 fun t20_14 H4 nx4 =>
      wApp t13_5 t20_14 1 16 H4 nx4 fun t21_15 H5 nx5 =>
      tj_6 [t21_15] H5 nx5) (
      tj_6 [t13_5] H2 nx2)) (fun tL_7 H3 nx3 =>
    wFld t1_2 3 fun t22_16 =>
    wLd t22_16 none H3 fun t23_17 =>
    wLen t23_17 0 H3 fun t24_18 =>
    wLoop (fun tih_19 tL_20 H6 nx6 =>
      wBin .lss (tL_20.getD 1 undef) t24_18 fun t26_21 =>
      wIf t26_21 (
        wIdx t23_17 (tL_20.getD 1 undef) none 2 fun t27_22 =>
        wLd t27_22 (some 2) H6 fun t28_23 =>
        wNew (.cells [.slice none 0 0, .slice none 0 0] 0) .ptr H6 nx6 fun t6_24 H7 nx7 =>
        wSt t6_24 t28_23 2 H7 fun H8 =>
        wLd t6_24 (some 2) H8 fun t29_25 =>
        wCall Tryz.prog 71 [t29_25] H8 nx7 fun t30_26 H9 nx9 =>
        wBin .neq t30_26 (.int .i64 0) fun t32_27 =>
        wIf t32_27 (
          forceV t30_26 fun tv_28 => k tv_28 H9 nx9) (
          wLd t6_24 (some 2) H9 fun t33_29 =>
          wCall Tryz.prog 47 [t33_29] H9 nx9 fun t34_30 H10 nx10 =>
          wLen t34_30 0 H10 fun t36_31 =>
          wBin .gtr t36_31 (.int .i64 8) fun t37_32 =>
          wIf t37_32 (
            forceV (.int .i64 12) fun tv_33 => k tv_33 H10 nx10) (
            wLd t6_24 (some 2) H10 fun t38_34 =>
            wCall Tryz.prog 72 [t38_34] H10 nx10 fun t39_35 H11 nx11 =>
            dBsl 2 1 [.slice none 0 0] [(0, (tL_7.getD 0 undef)), (1, t34_30)] fun tc_36 => wNew (.cells tc_36 0) (.slice 2 2) H11 nx11 fun t42_37 H12 nx12 =>
            wCall Tryz.prog 73 [t42_37] H12 nx12 fun t43_38 H13 nx13 =>
            wLen t43_38 0 H13 fun t44_39 =>
            wLoop (fun tih_40 tL_41 H14 nx14 =>
              wBin .lss (tL_41.getD 1 undef) t44_39 fun t46_42 =>
              wIf t46_42 (
                wIdx t43_38 (tL_41.getD 1 undef) none 1 fun t47_43 =>
                wLd t47_43 none H14 fun t48_44 =>
                wLk .string (.bool false) t39_35 t48_44 false H14 fun t51_45 =>
                wUn .not t51_45 fun t52_46 =>
                wIf t52_46 (
                  forceV (.int .i64 22) fun tv_47 => k tv_47 H14 nx14) (
                  wBin .add (tL_41.getD 1 undef) (.int .i64 1) fun t53_48 =>
                  tih_40 [(tL_41.getD 0 undef), t53_48] H14 nx14)) (
                wBin .add (tL_20.getD 1 undef) (.int .i64 1) fun t54_49 =>
                tih_19 [(tL_41.getD 0 undef), t54_49] H14 nx14)) [t30_26, (.int .i64 0)] H13 nx13))) (
        forceV (tL_20.getD 0 undef) fun tv_50 => k tv_50 H6 nx6)) [(.int .i64 0), (.int .i64 0)] H3 nx3)
theorem eq43 (a0 : Value) (H : Heap) (nx : Nat) (k : EP) : wBody Tryz.prog 56 6 d43 [(.s 2, none)] [a0] H nx k = F43 a0 H nx k := by kernel_rfl
theorem spec43 {a0 : Value} {H : Heap} {nx : Nat} {k : EP} (h : F43 a0 H nx k) : Ans Tryz.prog 43 [a0] H nx k :=
  spec_of_body mixed namesOK cfn43 ok43 (by simp) ((eq43 a0 H nx k).symm ▸ h)

/-! 44: ordinal/ast.checkOrder -/
def d44 : D :=
  (.seq
    (.ops [
        (none, [⟨none, some 1, .a (.box (.s 0))⟩,
        ⟨none, some 2, .p (.mv (.c (.int .i64 0)))⟩])] (.one .nil))
    (.seq
      (.ops [
          (none, [⟨none, some 6, .a (.mmap none)⟩,
          ⟨none, some 3, .p (.mv (.s 6))⟩])] (.one .nil))
      (.seq
        (.seq
          (.ops [
              (none, [⟨none, some 7, .p (.fld (.s 1) 4)⟩,
              ⟨none, some 8, .r (.ld (.s 7) none)⟩,
              ⟨none, some 9, .r (.len (.s 8) 0)⟩,
              ⟨none, some 10, .p (.mv (.c (.int .i64 0)))⟩])] (.one .nil))
          (.block 0
            (.loop [10] [2, 5, 11, 12, 13, 14, 15, 16, 17, 18, 19, 20, 21, 22, 23, 24, 25, 26, 27]
              (.seq
                (.ops [
                    (none, [⟨none, some 11, .p (.bin .lss (.s 10) (.s 9))⟩])] (.one .nil))
                (.seq
                  (.cond (.s 11)
                    .skip
                    (.exit 0))
                  (.seq
                    (.block 1
                      (.seq
                        (.ops [
                            (none, [⟨none, some 12, .p (.idx (.s 8) (.s 10) none 2)⟩,
                            ⟨none, some 13, .r (.ld (.s 12) (some 2))⟩,
                            ⟨none, some 5, .a (.alloc [.string ⟨#[]⟩, .bool false])⟩,
                            ⟨none, none, .e (.st (.s 5) (.s 13) 2)⟩])] (.one .nil))
                        (.seq
                          (.seq
                            (.ops [
                                (none, [⟨none, some 14, .p (.fld (.s 1) 0)⟩,
                                ⟨none, some 15, .r (.ld (.s 14) none)⟩,
                                ⟨none, some 16, .p (.fld (.s 5) 0)⟩,
                                ⟨none, some 17, .r (.ld (.s 16) none)⟩,
                                ⟨none, some 18, .e (.call (.c (.func (.func 39) ⟨[]⟩ ⟨[]⟩)) [.s 15, .s 17])⟩,
                                ⟨none, some 19, .p (.un .not (.s 18))⟩])] (.one .nil))
                            (.cond (.s 19)
                              (.seq
                                (.ops [
                                    (none, [⟨none, some 2, .p (.mv (.c (.int .i64 7)))⟩])] (.one .nil))
                                .ret)
                              .skip))
                          (.seq
                            (.seq
                              (.ops [
                                  (none, [⟨none, some 20, .p (.mv (.s 3))⟩,
                                  ⟨none, some 21, .p (.fld (.s 5) 0)⟩,
                                  ⟨none, some 22, .r (.ld (.s 21) none)⟩,
                                  ⟨none, some 23, .r (.lk .string (.bool false) (.s 20) (.s 22) false)⟩])] (.one .nil))
                              (.cond (.s 23)
                                (.seq
                                  (.ops [
                                      (none, [⟨none, some 2, .p (.mv (.c (.int .i64 8)))⟩])] (.one .nil))
                                  .ret)
                                .skip))
                            (.ops [
                                (none, [⟨none, some 24, .p (.mv (.s 3))⟩,
                                ⟨none, some 25, .p (.fld (.s 5) 0)⟩,
                                ⟨none, some 26, .r (.ld (.s 25) none)⟩,
                                ⟨none, none, .e (.upd .string (.s 24) (.s 26) (.c (.bool true)))⟩])] (.one .nil))))))
                    (.ops [
                        (none, [⟨none, some 27, .p (.bin .add (.s 10) (.c (.int .i64 1)))⟩,
                        ⟨none, some 10, .p (.mv (.s 27))⟩])] (.one .nil))))))))
        (.seq
          (.ops [
              (none, [⟨none, some 2, .p (.mv (.c (.int .i64 0)))⟩])] (.one .nil))
          .ret))))
theorem cfn44 : cfn Tryz.prog 44 = some ⟨28, 5, d44.erase, [(.s 2, none)]⟩ := by kernel_rfl
theorem ok44 : d44.ok 28 5 = true := by kernel_rfl
noncomputable def F44 (a0 : Value) (H : Heap) (nx : Nat) (k : EP) : Prop :=
  dBox a0 fun tc_1 => wNew (.cells tc_1 0) .ptr H nx fun t1_2 H1 nx1 =>
  dMmap none <| wNew (.map [] 0) .map H1 nx1 fun t6_3 H2 nx2 =>
  wFld t1_2 4 fun t7_4 =>
  wLd t7_4 none H2 fun t8_5 =>
  wLen t8_5 0 H2 fun t9_6 =>
  wLoop (fun tih_7 tL_8 H3 nx3 =>
    wBin .lss (tL_8.getD 0 undef) t9_6 fun t11_9 =>
    wIf t11_9 (
      wIdx t8_5 (tL_8.getD 0 undef) none 2 fun t12_10 =>
      wLd t12_10 (some 2) H3 fun t13_11 =>
      wNew (.cells [.string ⟨#[]⟩, .bool false] 0) .ptr H3 nx3 fun t5_12 H4 nx4 =>
      wSt t5_12 t13_11 2 H4 fun H5 =>
      wFld t1_2 0 fun t14_13 =>
      wLd t14_13 none H5 fun t15_14 =>
      wFld t5_12 0 fun t16_15 =>
      wLd t16_15 none H5 fun t17_16 =>
      wCall Tryz.prog 39 [t15_14, t17_16] H5 nx4 fun t18_17 H6 nx6 =>
      wUn .not t18_17 fun t19_18 =>
      wIf t19_18 (
        forceV (.int .i64 7) fun tv_19 => k tv_19 H6 nx6) (
        wFld t5_12 0 fun t21_20 =>
        wLd t21_20 none H6 fun t22_21 =>
        wLk .string (.bool false) t6_3 t22_21 false H6 fun t23_22 =>
        wIf t23_22 (
          forceV (.int .i64 8) fun tv_23 => k tv_23 H6 nx6) (
          wFld t5_12 0 fun t25_24 =>
          wLd t25_24 none H6 fun t26_25 =>
          wUpd .string t6_3 t26_25 (.bool true) H6 nx6 fun u_26 H7 nx7 =>
          wBin .add (tL_8.getD 0 undef) (.int .i64 1) fun t27_27 =>
          tih_7 [t27_27] H7 nx7))) (
      forceV (.int .i64 0) fun tv_28 => k tv_28 H3 nx3)) [(.int .i64 0)] H2 nx2
theorem eq44 (a0 : Value) (H : Heap) (nx : Nat) (k : EP) : wBody Tryz.prog 28 5 d44 [(.s 2, none)] [a0] H nx k = F44 a0 H nx k := by kernel_rfl
theorem spec44 {a0 : Value} {H : Heap} {nx : Nat} {k : EP} (h : F44 a0 H nx k) : Ans Tryz.prog 44 [a0] H nx k :=
  spec_of_body mixed namesOK cfn44 ok44 (by simp) ((eq44 a0 H nx k).symm ▸ h)

/-! 17: ordinal/ast.Check -/
def d17 : D :=
  (.seq
    (.ops [
        (none, [⟨none, some 1, .a (.box (.s 0))⟩,
        ⟨none, some 2, .p (.mv (.c (.int .i64 0)))⟩])] (.one .nil))
    (.seq
      (.seq
        (.ops [
            (none, [⟨none, some 6, .p (.fld (.s 1) 3)⟩,
            ⟨none, some 7, .r (.ld (.s 6) none)⟩,
            ⟨none, some 8, .r (.len (.s 7) 0)⟩,
            ⟨none, some 9, .p (.bin .eql (.s 8) (.c (.int .i64 0)))⟩])] (.one .nil))
        (.cond (.s 9)
          (.seq
            (.ops [
                (none, [⟨none, some 2, .p (.mv (.c (.int .i64 10)))⟩])] (.one .nil))
            .ret)
          .skip))
      (.seq
        (.join [24] [10, 11, 12, 13, 14, 15, 16, 17, 18, 19, 20, 21, 22, 23]
          (.ops [
              (none, [⟨none, some 10, .p (.fld (.s 1) 3)⟩,
              ⟨none, some 11, .r (.ld (.s 10) none)⟩,
              ⟨none, some 12, .r (.len (.s 11) 0)⟩,
              ⟨none, some 13, .p (.bin .gtr (.s 12) (.c (.int .i64 3)))⟩,
              ⟨none, some 14, .p (.mv (.s 13))⟩]),
              (some (14, false), [⟨none, some 15, .p (.fld (.s 1) 3)⟩,
              ⟨none, some 16, .r (.ld (.s 15) none)⟩,
              ⟨none, some 17, .r (.len (.s 16) 0)⟩,
              ⟨none, some 18, .p (.bin .gtr (.s 17) (.c (.int .i64 1)))⟩,
              ⟨none, some 19, .p (.mv (.s 18))⟩]),
              (some (19, true), [⟨none, some 20, .p (.fld (.s 1) 1)⟩,
              ⟨none, some 21, .r (.ld (.s 20) none)⟩,
              ⟨none, some 22, .p (.bin .neq (.s 21) (.c (.int .i64 0)))⟩]),
              (some (14, false), [⟨none, some 23, .p (.pick (.s 19) (.s 22) (.c (.bool false)))⟩]),
              (none, [⟨none, some 24, .p (.pick (.s 14) (.c (.bool true)) (.s 23))⟩])] (.one (.tst (.tst (.one (.one .nil)) (.one (.one .nil))) (.one (.one (.one .nil))))))
          (.cond (.s 24)
            (.seq
              (.ops [
                  (none, [⟨none, some 2, .p (.mv (.c (.int .i64 12)))⟩])] (.one .nil))
              .ret)
            .skip))
        (.seq
          (.seq
            (.ops [
                (none, [⟨none, some 25, .p (.fld (.s 1) 0)⟩,
                ⟨none, some 26, .r (.ld (.s 25) none)⟩,
                ⟨none, some 27, .e (.call (.c (.func (.func 41) ⟨[]⟩ ⟨[]⟩)) [.s 26])⟩,
                ⟨none, some 3, .p (.mv (.s 27))⟩])] (.one .nil))
            (.seq
              (.ops [
                  (none, [⟨none, some 28, .p (.mv (.s 3))⟩,
                  ⟨none, some 29, .p (.bin .neq (.s 28) (.c (.int .i64 0)))⟩])] (.one .nil))
              (.cond (.s 29)
                (.seq
                  (.ops [
                      (none, [⟨none, some 30, .p (.mv (.s 3))⟩,
                      ⟨none, some 2, .p (.mv (.s 30))⟩])] (.one .nil))
                  .ret)
                .skip)))
          (.seq
            (.seq
              (.ops [
                  (none, [⟨none, some 31, .r (.ld (.s 1) (some 5))⟩,
                  ⟨none, some 32, .e (.call (.c (.func (.func 42) ⟨[]⟩ ⟨[]⟩)) [.s 31])⟩,
                  ⟨none, some 4, .p (.mv (.s 32))⟩])] (.one .nil))
              (.seq
                (.ops [
                    (none, [⟨none, some 33, .p (.mv (.s 4))⟩,
                    ⟨none, some 34, .p (.bin .neq (.s 33) (.c (.int .i64 0)))⟩])] (.one .nil))
                (.cond (.s 34)
                  (.seq
                    (.ops [
                        (none, [⟨none, some 35, .p (.mv (.s 4))⟩,
                        ⟨none, some 2, .p (.mv (.s 35))⟩])] (.one .nil))
                    .ret)
                  .skip)))
            (.seq
              (.seq
                (.ops [
                    (none, [⟨none, some 36, .r (.ld (.s 1) (some 5))⟩,
                    ⟨none, some 37, .e (.call (.c (.func (.func 43) ⟨[]⟩ ⟨[]⟩)) [.s 36])⟩,
                    ⟨none, some 5, .p (.mv (.s 37))⟩])] (.one .nil))
                (.seq
                  (.ops [
                      (none, [⟨none, some 38, .p (.mv (.s 5))⟩,
                      ⟨none, some 39, .p (.bin .neq (.s 38) (.c (.int .i64 0)))⟩])] (.one .nil))
                  (.cond (.s 39)
                    (.seq
                      (.ops [
                          (none, [⟨none, some 40, .p (.mv (.s 5))⟩,
                          ⟨none, some 2, .p (.mv (.s 40))⟩])] (.one .nil))
                      .ret)
                    .skip)))
              (.seq
                (.ops [
                    (none, [⟨none, some 41, .r (.ld (.s 1) (some 5))⟩,
                    ⟨none, some 42, .e (.call (.c (.func (.func 44) ⟨[]⟩ ⟨[]⟩)) [.s 41])⟩,
                    ⟨none, some 2, .p (.mv (.s 42))⟩])] (.one .nil))
                .ret)))))))
theorem cfn17 : cfn Tryz.prog 17 = some ⟨43, 6, d17.erase, [(.s 2, none)]⟩ := by kernel_rfl
theorem ok17 : d17.ok 43 6 = true := by kernel_rfl
noncomputable def F17 (a0 : Value) (H : Heap) (nx : Nat) (k : EP) : Prop :=
  dBox a0 fun tc_1 => wNew (.cells tc_1 0) .ptr H nx fun t1_2 H1 nx1 =>
  wFld t1_2 3 fun t6_3 =>
  wLd t6_3 none H1 fun t7_4 =>
  wLen t7_4 0 H1 fun t8_5 =>
  wBin .eql t8_5 (.int .i64 0) fun t9_6 =>
  wIf t9_6 (
    forceV (.int .i64 10) fun tv_7 => k tv_7 H1 nx1) (
    wJoin (fun tj_8 =>
      wFld t1_2 3 fun t10_10 =>
      wLd t10_10 none H1 fun t11_11 =>
      wLen t11_11 0 H1 fun t12_12 =>
      wBin .gtr t12_12 (.int .i64 3) fun t13_13 =>
      wGuard false t13_13 (
        wFld t1_2 3 fun t15_14 =>
        wLd t15_14 none H1 fun t16_15 =>
        wLen t16_15 0 H1 fun t17_16 =>
        wBin .gtr t17_16 (.int .i64 1) fun t18_17 =>
        wGuard true t18_17 (
          wFld t1_2 1 fun t20_18 =>
          wLd t20_18 none H1 fun t21_19 =>
          wBin .neq t21_19 (.int .i64 0) fun t22_20 =>
            tj_8 [t22_20] H1 nx1) (
            tj_8 [(.bool false)] H1 nx1)) (
            tj_8 [(.bool true)] H1 nx1)) (fun tL_9 H2 nx2 =>
      wIf (tL_9.getD 0 undef) (
        forceV (.int .i64 12) fun tv_21 => k tv_21 H2 nx2) (
        wFld t1_2 0 fun t25_22 =>
        wLd t25_22 none H2 fun t26_23 =>
        wCall Tryz.prog 41 [t26_23] H2 nx2 fun t27_24 H3 nx3 =>
        wBin .neq t27_24 (.int .i64 0) fun t29_25 =>
        wIf t29_25 (
          forceV t27_24 fun tv_26 => k tv_26 H3 nx3) (
          wLd t1_2 (some 5) H3 fun t31_27 =>
          wCall Tryz.prog 42 [t31_27] H3 nx3 fun t32_28 H4 nx4 =>
          wBin .neq t32_28 (.int .i64 0) fun t34_29 =>
          wIf t34_29 (
            forceV t32_28 fun tv_30 => k tv_30 H4 nx4) (
            wLd t1_2 (some 5) H4 fun t36_31 =>
            wCall Tryz.prog 43 [t36_31] H4 nx4 fun t37_32 H5 nx5 =>
            wBin .neq t37_32 (.int .i64 0) fun t39_33 =>
            wIf t39_33 (
              forceV t37_32 fun tv_34 => k tv_34 H5 nx5) (
              wLd t1_2 (some 5) H5 fun t41_35 =>
              wCall Tryz.prog 44 [t41_35] H5 nx5 fun t42_36 H6 nx6 =>
              forceV t42_36 fun tv_37 => k tv_37 H6 nx6))))))
theorem eq17 (a0 : Value) (H : Heap) (nx : Nat) (k : EP) : wBody Tryz.prog 43 6 d17 [(.s 2, none)] [a0] H nx k = F17 a0 H nx k := by kernel_rfl
theorem spec17 {a0 : Value} {H : Heap} {nx : Nat} {k : EP} (h : F17 a0 H nx k) : Ans Tryz.prog 17 [a0] H nx k :=
  spec_of_body mixed namesOK cfn17 ok17 (by simp) ((eq17 a0 H nx k).symm ▸ h)

/-! 46: ordinal/ast.Order -/
def d46 : D :=
  (.seq
    (.ops [
        (none, [⟨none, some 1, .a (.box (.s 0))⟩,
        ⟨none, some 2, .p (.mv (.c (.slice none 0 0)))⟩])] (.one .nil))
    (.seq
      (.ops [
          (none, [⟨none, some 9, .p (.fld (.s 1) 4)⟩,
          ⟨none, some 10, .r (.ld (.s 9) none)⟩,
          ⟨none, some 11, .e (.call (.c (.func (.func 75) ⟨[]⟩ ⟨[]⟩)) [.s 10])⟩,
          ⟨none, some 3, .p (.mv (.s 11))⟩])] (.one .nil))
      (.seq
        (.ops [
            (none, [⟨none, some 12, .a (.mmap none)⟩,
            ⟨none, some 4, .p (.mv (.s 12))⟩])] (.one .nil))
        (.seq
          (.seq
            (.ops [
                (none, [⟨none, some 13, .p (.fld (.s 1) 4)⟩,
                ⟨none, some 14, .r (.ld (.s 13) none)⟩,
                ⟨none, some 15, .r (.len (.s 14) 0)⟩,
                ⟨none, some 16, .p (.mv (.c (.int .i64 0)))⟩])] (.one .nil))
            (.block 0
              (.loop [16] [6, 17, 18, 19, 20, 21, 22, 23]
                (.seq
                  (.ops [
                      (none, [⟨none, some 17, .p (.bin .lss (.s 16) (.s 15))⟩])] (.one .nil))
                  (.seq
                    (.cond (.s 17)
                      .skip
                      (.exit 0))
                    (.seq
                      (.block 1
                        (.seq
                          (.ops [
                              (none, [⟨none, some 18, .p (.idx (.s 14) (.s 16) none 2)⟩,
                              ⟨none, some 19, .r (.ld (.s 18) (some 2))⟩,
                              ⟨none, some 6, .a (.alloc [.string ⟨#[]⟩, .bool false])⟩,
                              ⟨none, none, .e (.st (.s 6) (.s 19) 2)⟩])] (.one .nil))
                          (.ops [
                              (none, [⟨none, some 20, .p (.mv (.s 4))⟩,
                              ⟨none, some 21, .p (.fld (.s 6) 0)⟩,
                              ⟨none, some 22, .r (.ld (.s 21) none)⟩,
                              ⟨none, none, .e (.upd .string (.s 20) (.s 22) (.c (.bool true)))⟩])] (.one .nil))))
                      (.ops [
                          (none, [⟨none, some 23, .p (.bin .add (.s 16) (.c (.int .i64 1)))⟩,
                          ⟨none, some 16, .p (.mv (.s 23))⟩])] (.one .nil))))))))
          (.seq
            (.seq
              (.ops [
                  (none, [⟨none, some 24, .p (.fld (.s 1) 0)⟩,
                  ⟨none, some 25, .r (.ld (.s 24) none)⟩,
                  ⟨none, some 26, .r (.len (.s 25) 0)⟩,
                  ⟨none, some 27, .p (.mv (.c (.int .i64 0)))⟩])] (.one .nil))
              (.block 2
                (.loop [3, 27] [8, 28, 29, 30, 31, 32, 33, 34, 35, 36, 37, 38, 39, 40]
                  (.seq
                    (.ops [
                        (none, [⟨none, some 28, .p (.bin .lss (.s 27) (.s 26))⟩])] (.one .nil))
                    (.seq
                      (.cond (.s 28)
                        .skip
                        (.exit 2))
                      (.join [3] [8, 29, 30, 31, 32, 33, 34, 35, 36, 37, 38, 39]
                        (.block 3
                          (.seq
                            (.ops [
                                (none, [⟨none, some 29, .p (.idx (.s 25) (.s 27) none 1)⟩,
                                ⟨none, some 30, .r (.ld (.s 29) none)⟩,
                                ⟨none, some 8, .p (.mv (.s 30))⟩])] (.one .nil))
                            (.seq
                              (.ops [
                                  (none, [⟨none, some 31, .p (.mv (.s 4))⟩,
                                  ⟨none, some 32, .p (.mv (.s 8))⟩,
                                  ⟨none, some 33, .r (.lk .string (.bool false) (.s 31) (.s 32) false)⟩,
                                  ⟨none, some 34, .p (.un .not (.s 33))⟩])] (.one .nil))
                              (.cond (.s 34)
                                (.ops [
                                    (none, [⟨none, some 35, .p (.mv (.s 3))⟩,
                                    ⟨none, some 36, .p (.mv (.s 8))⟩,
                                    ⟨none, some 37, .p (.build [.string ⟨#[]⟩, .bool false] [(0, 1), (1, 1)] [(0, .s 36)])⟩,
                                    ⟨none, some 38, .a (.bsl 1 2 [.string ⟨#[]⟩, .bool false] [(0, .s 37)])⟩,
                                    ⟨none, some 39, .e (.app (.s 35) (.s 38) 2 24)⟩,
                                    ⟨none, some 3, .p (.mv (.s 39))⟩])] (.one .nil))
                                .skip))))
                        (.ops [
                            (none, [⟨none, some 40, .p (.bin .add (.s 27) (.c (.int .i64 1)))⟩,
                            ⟨none, some 27, .p (.mv (.s 40))⟩])] (.one .nil))))))))
            (.seq
              (.ops [
                  (none, [⟨none, some 41, .p (.mv (.s 3))⟩,
                  ⟨none, some 2, .p (.mv (.s 41))⟩])] (.one .nil))
              .ret))))))
theorem cfn46 : cfn Tryz.prog 46 = some ⟨42, 6, d46.erase, [(.s 2, none)]⟩ := by kernel_rfl
theorem ok46 : d46.ok 42 6 = true := by kernel_rfl
noncomputable def F46 (a0 : Value) (H : Heap) (nx : Nat) (k : EP) : Prop :=
  dBox a0 fun tc_1 => wNew (.cells tc_1 0) .ptr H nx fun t1_2 H1 nx1 =>
  wFld t1_2 4 fun t9_3 =>
  wLd t9_3 none H1 fun t10_4 =>
  wCall Tryz.prog 75 [t10_4] H1 nx1 fun t11_5 H2 nx2 =>
  dMmap none <| wNew (.map [] 0) .map H2 nx2 fun t12_6 H3 nx3 =>
  wFld t1_2 4 fun t13_7 =>
  wLd t13_7 none H3 fun t14_8 =>
  wLen t14_8 0 H3 fun t15_9 =>
  wLoop (fun tih_10 tL_11 H4 nx4 =>
    wBin .lss (tL_11.getD 0 undef) t15_9 fun t17_12 =>
    wIf t17_12 (
      wIdx t14_8 (tL_11.getD 0 undef) none 2 fun t18_13 =>
      wLd t18_13 (some 2) H4 fun t19_14 =>
      wNew (.cells [.string ⟨#[]⟩, .bool false] 0) .ptr H4 nx4 fun t6_15 H5 nx5 =>
      wSt t6_15 t19_14 2 H5 fun H6 =>
      wFld t6_15 0 fun t21_16 =>
      wLd t21_16 none H6 fun t22_17 =>
      wUpd .string t12_6 t22_17 (.bool true) H6 nx5 fun u_18 H7 nx7 =>
      wBin .add (tL_11.getD 0 undef) (.int .i64 1) fun t23_19 =>
      tih_10 [t23_19] H7 nx7) (
      wFld t1_2 0 fun t24_20 =>
      wLd t24_20 none H4 fun t25_21 =>
      wLen t25_21 0 H4 fun t26_22 =>
      wLoop (fun tih_23 tL_24 H8 nx8 =>
        wBin .lss (tL_24.getD 1 undef) t26_22 fun t28_25 =>
        wIf t28_25 (
          wJoin (fun tj_26 =>
            wIdx t25_21 (tL_24.getD 1 undef) none 1 fun t29_28 =>
            wLd t29_28 none H8 fun t30_29 =>
            wLk .string (.bool false) t12_6 t30_29 false H8 fun t33_30 =>
            wUn .not t33_30 fun t34_31 =>
            wIf t34_31 (
              wBuild [.string ⟨#[]⟩, .bool false] [(0, 1), (1, 1)] [(0, t30_29)] fun t37_32 =>
              dBsl 1 2 [.string ⟨#[]⟩, .bool false] [(0, t37_32)] fun tc_33 => wNew (.cells tc_33 0) (.slice 1 1) H8 nx8 fun t38_34 H10 nx10 =>
              wApp (tL_24.getD 0 undef) t38_34 2 24 H10 nx10 fun t39_35 H11 nx11 =>
              tj_26 [t39_35] H11 nx11) (
              tj_26 [(tL_24.getD 0 undef)] H8 nx8)) (fun tL_27 H9 nx9 =>
            wBin .add (tL_24.getD 1 undef) (.int .i64 1) fun t40_36 =>
            tih_23 [(tL_27.getD 0 undef), t40_36] H9 nx9)) (
          forceV (tL_24.getD 0 undef) fun tv_37 => k tv_37 H8 nx8)) [t11_5, (.int .i64 0)] H4 nx4)) [(.int .i64 0)] H3 nx3
theorem eq46 (a0 : Value) (H : Heap) (nx : Nat) (k : EP) : wBody Tryz.prog 42 6 d46 [(.s 2, none)] [a0] H nx k = F46 a0 H nx k := by kernel_rfl
theorem spec46 {a0 : Value} {H : Heap} {nx : Nat} {k : EP} (h : F46 a0 H nx k) : Ans Tryz.prog 46 [a0] H nx k :=
  spec_of_body mixed namesOK cfn46 ok46 (by simp) ((eq46 a0 H nx k).symm ▸ h)

/-! 75: slices.Clone[[]ordinal/api.Key,ordinal/api.Key] -/
def d75 : D :=
  (.seq
    (.ops [
        (none, [⟨none, some 2, .p (.mv (.c (.slice none 0 0)))⟩])] (.one .nil))
    (.seq
      (.seq
        (.ops [
            (none, [⟨none, some 3, .p (.mv (.s 0))⟩,
            ⟨none, some 4, .p (.vf (.eqn false (.slice 63)) [.s 3, .c (.slice none 0 0)])⟩])] (.one .nil))
        (.cond (.s 4)
          (.seq
            (.ops [
                (none, [⟨none, some 2, .p (.mv (.c (.slice none 0 0)))⟩])] (.one .nil))
            .ret)
          .skip))
      (.seq
        (.ops [
            (none, [⟨none, some 5, .a (.bsl 0 2 [.string ⟨#[]⟩, .bool false] [])⟩,
            ⟨none, some 6, .p (.mv (.s 0))⟩,
            ⟨none, some 7, .e (.app (.s 5) (.s 6) 2 24)⟩,
            ⟨none, some 2, .p (.mv (.s 7))⟩])] (.one .nil))
        .ret)))
theorem cfn75 : cfn Tryz.prog 75 = some ⟨8, 4, d75.erase, [(.s 2, none)]⟩ := by kernel_rfl
theorem ok75 : d75.ok 8 4 = true := by kernel_rfl
noncomputable def F75 (a0 : Value) (H : Heap) (nx : Nat) (k : EP) : Prop :=
  wVf (.eqn false (.slice 63)) [a0, (.slice none 0 0)] fun t4_1 =>
  wIf t4_1 (
    forceV (.slice none 0 0) fun tv_2 => k tv_2 H nx) (
    dBsl 0 2 [.string ⟨#[]⟩, .bool false] [] fun tc_3 => wNew (.cells tc_3 0) (.slice 0 0) H nx fun t5_4 H1 nx1 =>
    wApp t5_4 a0 2 24 H1 nx1 fun t7_5 H2 nx2 =>
    forceV t7_5 fun tv_6 => k tv_6 H2 nx2)
theorem eq75 (a0 : Value) (H : Heap) (nx : Nat) (k : EP) : wBody Tryz.prog 8 4 d75 [(.s 2, none)] [a0] H nx k = F75 a0 H nx k := by kernel_rfl
theorem spec75 {a0 : Value} {H : Heap} {nx : Nat} {k : EP} (h : F75 a0 H nx k) : Ans Tryz.prog 75 [a0] H nx k :=
  spec_of_body mixed namesOK cfn75 ok75 (by simp) ((eq75 a0 H nx k).symm ▸ h)

end Go.Proofs.YthbdeaeghipliaaGreatDoor

set_option linter.unusedSimpArgs false
set_option linter.unusedVariables false
set_option linter.unusedSectionVars false
namespace Go.Proofs.YthbdeaeghipliaaGreatDoor
open Go.Clo

theorem clone70 (A : Option Addr) (l : List ByteArray) (cap : Nat) (H : Heap) (nx : Nat) (hS : Sl H nx A (strs l)) (hA : Has H nx A) (hl : l.length ≤ 1000) :
    Ans Tryz.prog 70 [.slice A l.length cap] H nx fun v H' nx' => AccL nx H' nx' v (strs l) ∧ Ext H nx H' nx' := by
  refine spec70 ?_
  unfold F70
  cases A with
  | none =>
    have hp : l = [] := by
      cases l with
      | nil => rfl
      | cons x r =>
        obtain ⟨b, o, row, e, _⟩ := hS 0 (.string x) rfl
        cases e
    subst hp
    simp (disch := first | omega | assumption | exact shr_lt (by assumption) | exact ndiff32 (by assumption) | exact below_lt (by omega) | fail) only [wIf_bool, wNew_eq, forceV_eq, Yld.val, if_true, List.length_nil, wVf_isnil, Option.isNone_none]
    exact ⟨.inl (Acc.nil _ _ _ _), Ext.refl _ _⟩
  | some a =>
    have hX : Ext H nx (hs H nx (some (.cells [] 0))) (nx + 1) := (Ext.refl H nx).new _ (Nat.le_refl _) (by omega)
    simp (disch := first | omega | assumption | exact shr_lt (by assumption) | exact ndiff32 (by assumption) | exact below_lt (by omega) | fail) only [wIf_bool, wNew_eq, forceV_eq, Yld.val, if_false, Bool.false_eq_true, wVf_isnil, Option.isNone_some, dBsl_none]
    refine wApp_litL (lo := nx) (H0 := H) (getH_same _ _ _) (Nat.le_refl _) (by omega) (src_any (hS.ext hX) (hA.ext hX) (by rw [strs_length]; omega) (by omega)) (oneCells_strs l) (by omega) (by omega) hX ?_
    intro v H' nx' _ h1 h2
    exact ⟨h1, h2⟩

/-! slices.Grow(nil, n). -/
theorem zero_list (n : Nat) : (Builtin.zeroCells #[Value.string ⟨#[]⟩] n).toList = strs (List.replicate n nul) := by
  apply List.ext_getElem
  · simp [Builtin.zeroCells, strs]
  · intro i h1 h2
    simp [Builtin.zeroCells, strs, nul, Nat.mod_one]
theorem enters101 : Go.Clo.Enters Tryz.prog 101 := ⟨_, _, Tryz.func101, rfl, by kernel_rfl⟩
open Go.RowKit Go.Shelf in
theorem growW (n : Nat) (h0 : 0 < n) (hn : n ≤ 100000) (w : World) : Calls Tryz.prog 101 #[.slice none 0 0, .int .i64 (n : Int)] w fun e w' => ∃ (G : Nat) (cur : Array Value), e = .returned (.slice (some ⟨w.heap.size, 0, none⟩) 0 G) ∧ n ≤ G ∧ RowKit.Below w.heap.size w w' ∧
    w'.heap[w.heap.size]? = some (.cells cur 9 (0, 0)) ∧ cur.size = G ∧ cur.toList.take n = strs (List.replicate n nul) := by
  obtain ⟨i0, hi, hz0, hz1, hz2⟩ := info_parts info9
  have hc := Any8.slices_Grow_grow Tryz.grow101 i0 (.string ⟨#[]⟩) hi hz0 (by omega) none 0 0 n [] w (Nat.le_refl _) (by omega) (by rw [hz2]; omega) (by omega) (by simp) (fun _ => rfl) (fun a h => by cases h)
  refine Calls.mono hc ?_
  rintro e w' ⟨rfl, rfl⟩
  have hG := grownCap_ge w (0 + n) 0 (Tryz.grow101_ren.t 25)
  refine ⟨_, (#[] ++ Builtin.zeroCells (Value.string ⟨#[]⟩).cells (0 + n - 0) ++ Builtin.zeroCells (Value.string ⟨#[]⟩).cells (grownCap w (0 + n) 0 (Tryz.grow101_ren.t 25) - (0 + n))), rfl, by omega, ((RowKit.Below.refl _ w).drew).alloc (Nat.le_refl _) _, ?_, ?_, ?_⟩
  · show (w.heap.push _)[w.heap.size]? = _
    rw [Array.getElem?_push_size]; rfl
  · have hz : ∀ m, (Builtin.zeroCells (Value.string ⟨#[]⟩).cells m).size = m := fun m => by
      have := congrArg List.length (zero_list m)
      rw [Array.length_toList, strs_length, List.length_replicate] at this
      exact this
    rw [Array.size_append, Array.size_append, hz, hz]
    simp only [Array.size_empty]
    omega
  · simp only [Array.toList_append, List.nil_append]
    rw [show (Value.string ⟨#[]⟩).cells = #[Value.string ⟨#[]⟩] from rfl, zero_list, zero_list]
    simp [strs]
end Go.Proofs.YthbdeaeghipliaaGreatDoor

set_option linter.unusedSimpArgs false
set_option linter.unusedVariables false
set_option linter.unusedSectionVars false
namespace Go.Proofs.YthbdeaeghipliaaGreatDoor
open Go.Clo

theorem grow101 (n : Nat) (h0 : 0 < n) (hn : n ≤ 100000) (H : Heap) (nx : Nat) : Ans Tryz.prog 101 [.slice none 0 0, .int .i64 (n : Int)] H nx fun r H' nx' => r = .slice (some ⟨nx, 0, none⟩) 0 n ∧ H' = hs H nx (some (.cells (strs (List.replicate n nul)) 1)) ∧ nx' = nx + 1 := by
  refine ⟨_, _, _, ⟨enters101, fun F args' w hh hl => ?_⟩, rfl, rfl, rfl⟩
  have e := flatL_eq hl rfl
  subst e
  refine Calls.mono (growW n h0 hn w) ?_
  rintro e w' ⟨G, cur, he, hG, hb, hc, hsz, htk⟩
  have hl : (strs (List.replicate n nul)).length = n := by rw [strs_length, List.length_replicate]
  refine ⟨_, upd F nx ⟨w.heap.size, 0, n, 1, G⟩, he, ?_, Stp.name hh rfl hb.os hb.tape hb.output hb.size (fun k hk => hb.block k hk) ?_ (Nat.le_refl _)⟩
  · have := VR.slice (F := upd F nx ⟨w.heap.size, 0, n, 1, G⟩) (b := nx) (o := 0) (n := 0) (c := n) (c' := G) (t := ⟨w.heap.size, 0, n, 1, G⟩) (upd_same _ _ _) (.inr ⟨Nat.one_pos, hG, by simp, by simp⟩)
    exact this
  · refine ⟨cur, _, hc, hsz, ?_, rfl, by rw [hl]; simpa using hG, ?_⟩
    · exact hl.symm
    · simp only [List.drop_zero]
      rw [hl, htk]
      exact flatL_refl _ _ (strs_flat _)

theorem grow0 (H : Heap) (nx : Nat) : Ans Tryz.prog 101 [.slice none 0 0, .int .i64 (0 : Int)] H nx fun r H' nx' => .slice none 0 0 = r ∧ H = H' ∧ nx = nx' :=
  ans_flat enters101 rfl rfl (fun w => Any8.slices_Grow_room Tryz.grow101 none 0 0 0 w (Nat.le_refl _) (by omega) (by omega) (Nat.le_refl _)) H nx
/-- Strings collected in a row of a known size. -/
def CS (H : Heap) (g total : Nat) (acc : List ByteArray) (v : Value) : Prop :=
  (total = 0 ∧ v = .slice none 0 0 ∧ acc = []) ∨ (0 < total ∧ v = .slice (some ⟨g, 0, none⟩) acc.length total ∧ acc.length ≤ total ∧ getH H g = some (.cells (strs (acc ++ List.replicate (total - acc.length) nul)) 1))
theorem wApp_cs {H : Heap} {nx g total : Nat} {acc l : List ByteArray} {v x : Value} {k : EP} (h : CS H g total acc v) (hx : Go.Clo.Src H 1 x l.length (strs l)) (hle : acc.length + l.length ≤ total) (ht : total ≤ 100000)
    (hk : ∀ v' H', CS H' g total (acc ++ l) v' → (∀ i, i ≠ g → getH H' i = getH H i) → k v' H' nx) : wApp v x 1 16 H nx k := by
  rcases h with ⟨h0, rfl, rfl⟩ | ⟨h0, rfl, h1, h2⟩
  · have hl : l = [] := List.length_eq_zero_iff.1 (by simp at hle; omega)
    subst hl
    rw [wApp_zero hx (by omega)]
    exact hk _ _ (.inl ⟨h0, rfl, rfl⟩) fun _ _ => rfl
  · have hlen : (strs (acc ++ List.replicate (total - acc.length) nul)).length = total := by rw [strs_length, List.length_append, List.length_replicate]; omega
    unfold wApp appK
    rw [hx.len]
    dsimp only
    rw [forceN_eq, bltrue (show (2 * (acc.length + l.length) + 1000) * 16 ≤ 281474976710656 by omega), bltrue (show acc.length + l.length ≤ 1000000000 by omega)]
    simp only [Bool.and_self, cond_true]
    rw [hx.first, oneCells_strs, bltrue hle]
    simp only [cond_true, appIn]
    rw [forceN_eq, putCK_eq, Nat.mul_one, Nat.zero_add, h2]
    simp only [stP_cells]
    refine ⟨by rw [hlen, strs_length]; exact hle, hk _ _ (.inr ⟨h0, by rw [List.length_append], by rw [List.length_append]; exact hle, ?_⟩) fun i hi => getH_ne _ hi⟩
    rw [getH_same]
    congr 2
    unfold putL strs
    rw [List.length_map, ← List.map_take, ← List.map_drop, ← List.map_append, ← List.map_append]
    congr 1
    rw [List.take_append_of_le_length (Nat.le_refl _), List.take_length, List.drop_append, List.drop_eq_nil_of_le (by omega), List.nil_append, List.drop_replicate, List.length_append]
    congr 2
    omega

theorem concat_loop (q : Nat) (A1 A2 : Option Addr) (l1 l2 : List ByteArray) (c1 c2 : Nat) (H : Heap) (nx : Nat) (hq : getH H q = some (.cells [.slice A1 l1.length c1, .slice A2 l2.length c2] 0)) (hqn : q < nx) (hS1 : Sl H nx A1 (strs l1)) (hA1 : Has H nx A1) (hS2 : Sl H nx A2 (strs l2)) (hA2 : Has H nx A2) (hl1 : l1.length ≤ 1000) (hl2 : l2.length ≤ 1000)
    (v : Value) (H3 : Heap) (nx3 : Nat) (hcs : CS H3 nx (l1.length + l2.length) [] v) (hlow : ∀ i, i < nx → getH H3 i = getH H i) (hn3 : nx ≤ nx3) (hpos : 0 < l1.length + l2.length → nx < nx3) {k : EP}
    (hk : ∀ v H' nx', ((∃ A c, v = .slice A (l1 ++ l2).length c ∧ Sl H' nx' A (strs (l1 ++ l2))) ∧ Ext H nx H' nx') → k v H' nx') :
      wLoop (fun tih_16 tL_17 H4 nx4 =>
        wBin .lss (tL_17.getD 1 undef) (.int .i64 2) fun t28_18 =>
        wIf t28_18 (
          wIdx (.slice (some ⟨q, 0, none⟩) 2 2) (tL_17.getD 1 undef) none 1 fun t29_19 =>
          wLd t29_19 none H4 fun t30_20 =>
          wApp (tL_17.getD 0 undef) t30_20 1 16 H4 nx4 fun t33_21 H5 nx5 =>
          wBin .add (tL_17.getD 1 undef) (.int .i64 1) fun t34_22 =>
          tih_16 [t33_21, t34_22] H5 nx5) (
          k (tL_17.getD 0 undef) H4 nx4)) [v, .int .i64 0] H3 nx3 := by
  have z0 : (0 : Int) < 2 := by decide
  have z1 : (1 : Int) < 2 := by decide
  have z2 : ¬ (2 : Int) < 2 := by decide
  have e2 : (1 : Int) + 1 = 2 := by decide
  have e3 : (0 : Int) + 1 = 1 := by decide
  refine wLoop_rule (m := 2) (fun m L H' nx' => ((m = 2 ∧ ∃ u, L = [u, .int .i64 0] ∧ CS H' nx (l1.length + l2.length) [] u) ∨ (m = 1 ∧ ∃ u, L = [u, .int .i64 1] ∧ CS H' nx (l1.length + l2.length) l1 u) ∨ (m = 0 ∧ ∃ u, L = [u, .int .i64 2] ∧ CS H' nx (l1.length + l2.length) (l1 ++ l2) u)) ∧ (∀ i, i < nx → getH H' i = getH H i) ∧ nx3 = nx') ?_ ⟨.inl ⟨rfl, v, rfl, hcs⟩, hlow, rfl⟩
  rintro m ih L H4 _ ⟨hL, hlow4, rfl⟩ hih
  have hE4 : Ext H nx H4 nx3 := ⟨hn3, hlow4⟩
  have hq4 := (hlow4 q hqn).trans hq
  rcases hL with ⟨rfl, u, rfl, hcs4⟩ | ⟨rfl, u, rfl, hcs4⟩ | ⟨rfl, u, rfl, hcs4⟩
  · simp (disch := first | omega | assumption | exact shr_lt (by assumption) | exact ndiff32 (by assumption) | exact below_lt (by omega) | fail) only [List.getD_cons_zero, List.getD_cons_succ, wBin_lss, wIf_bool, wLd_none, ldP_cells, cellP_one, Option.elim_some, List.getElem?_cons_zero, decide_true, if_true, Nat.add_zero, wBin_add64, wIdx_slice, Nat.mul_one, Int.toNat_zero, z0, hq4]
    refine wApp_cs (l := l1) hcs4 (src_any (hS1.ext hE4) (hA1.ext hE4) (by rw [strs_length]; omega) (by omega)) (by simp) (by omega) ?_
    intro v' H5 h5 h6
    simp (disch := first | omega | assumption | exact shr_lt (by assumption) | exact ndiff32 (by assumption) | exact below_lt (by omega) | fail) only [e3]
    exact hih 1 _ _ _ (by omega) ⟨.inr (.inl ⟨rfl, _, rfl, by simpa using h5⟩), fun i hi => (h6 i (by omega)).trans (hlow4 i hi), rfl⟩
  · simp (disch := first | omega | assumption | exact shr_lt (by assumption) | exact ndiff32 (by assumption) | exact below_lt (by omega) | fail) only [List.getD_cons_zero, List.getD_cons_succ, wBin_lss, wIf_bool, wLd_none, ldP_cells, cellP_one, Option.elim_some, List.getElem?_cons_zero, List.getElem?_cons_succ, decide_true, if_true, Nat.zero_add, wBin_add64, wIdx_slice, Nat.mul_one, Int.toNat_one, z1, hq4]
    refine wApp_cs (l := l2) hcs4 (src_any (hS2.ext hE4) (hA2.ext hE4) (by rw [strs_length]; omega) (by omega)) (Nat.le_refl _) (by omega) ?_
    intro v' H5 h5 h6
    simp (disch := first | omega | assumption | exact shr_lt (by assumption) | exact ndiff32 (by assumption) | exact below_lt (by omega) | fail) only [e2]
    exact hih 0 _ _ _ (by omega) ⟨.inr (.inr ⟨rfl, _, rfl, h5⟩), fun i hi => (h6 i (by omega)).trans (hlow4 i hi), rfl⟩
  · simp (disch := first | omega | assumption | exact shr_lt (by assumption) | exact ndiff32 (by assumption) | exact below_lt (by omega) | fail) only [List.getD_cons_zero, List.getD_cons_succ, wBin_lss, wIf_bool, decide_false, if_false, Bool.false_eq_true, wBin_add64, z2]
    refine hk _ _ _ ⟨?_, hE4⟩
    rcases hcs4 with ⟨h0, rfl, h1⟩ | ⟨h0, rfl, _, hg⟩
    · rw [h1]
      exact ⟨none, 0, rfl, Sl.nil _ _ _⟩
    · refine ⟨_, _, rfl, ?_⟩
      have e : (l1 ++ l2).length = l1.length + l2.length := List.length_append
      rw [e, Nat.sub_self, List.replicate_zero, List.append_nil] at hg
      exact Go.Clo.sl_new (hpos h0) hg

theorem concat73 (q : Nat) (A1 A2 : Option Addr) (l1 l2 : List ByteArray) (c1 c2 : Nat) (H : Heap) (nx : Nat) (hq : getH H q = some (.cells [.slice A1 l1.length c1, .slice A2 l2.length c2] 0)) (hqn : q < nx) (hS1 : Sl H nx A1 (strs l1)) (hA1 : Has H nx A1) (hS2 : Sl H nx A2 (strs l2)) (hA2 : Has H nx A2) (hl1 : l1.length ≤ 1000) (hl2 : l2.length ≤ 1000) :
    Ans Tryz.prog 73 [.slice (some ⟨q, 0, none⟩) 2 2] H nx fun v H' nx' => (∃ A c, v = .slice A (l1 ++ l2).length c ∧ Sl H' nx' A (strs (l1 ++ l2))) ∧ Ext H nx H' nx' := by
  refine spec73 ?_
  unfold F73
  have z0 : (0 : Int) < 2 := by decide
  have z1 : (1 : Int) < 2 := by decide
  have z2 : ¬ (2 : Int) < 2 := by decide
  have e1 : (l1.length : Int) + (l2.length : Int) = ((l1.length + l2.length : Nat) : Int) := by omega
  have n1 : ¬ (l1.length : Int) < 0 := by omega
  have n2 : ¬ ((l1.length + l2.length : Nat) : Int) < 0 := by omega
  have e0 : (0 : Int) + (l1.length : Int) = (l1.length : Int) := by omega
  have e2 : (1 : Int) + 1 = 2 := by decide
  have e3 : (0 : Int) + 1 = 1 := by decide
  have c2' : ((2 : Nat) : Int) = 2 := rfl
  simp (disch := first | omega | assumption | exact shr_lt (by assumption) | exact ndiff32 (by assumption) | exact below_lt (by omega) | fail) only [wLen_slice, forceV_eq]
  refine wLoop_rule (m := 2) (fun m L H' nx' => ((m = 2 ∧ L = [.int .i64 0, .int .i64 0]) ∨ (m = 1 ∧ L = [.int .i64 (l1.length : Int), .int .i64 1]) ∨ (m = 0 ∧ L = [.int .i64 ((l1.length + l2.length : Nat) : Int), .int .i64 2])) ∧ H = H' ∧ nx = nx') ?_ ⟨.inl ⟨rfl, rfl⟩, rfl, rfl⟩
  rintro m ih L _ _ ⟨hL, rfl, rfl⟩ hih
  rcases hL with ⟨rfl, rfl⟩ | ⟨rfl, rfl⟩ | ⟨rfl, rfl⟩
  · simp (disch := first | omega | assumption | exact shr_lt (by assumption) | exact ndiff32 (by assumption) | exact below_lt (by omega) | fail) only [List.getD_cons_zero, List.getD_cons_succ, wBin_lss, wIf_bool, wLen_slice, wLd_none, ldP_cells, cellP_one, Option.elim_some, List.getElem?_cons_zero, decide_true, decide_false, if_true, if_false, Bool.false_eq_true, Nat.add_zero, wBin_add64, wIdx_slice, Nat.mul_one, Int.toNat_zero, c2', z0, hq, wJoin_eq, e0, n1, e3]
    exact hih 1 _ _ _ (by omega) ⟨.inr (.inl ⟨rfl, rfl⟩), rfl, rfl⟩
  · simp (disch := first | omega | assumption | exact shr_lt (by assumption) | exact ndiff32 (by assumption) | exact below_lt (by omega) | fail) only [List.getD_cons_zero, List.getD_cons_succ, wBin_lss, wIf_bool, wLen_slice, wLd_none, ldP_cells, cellP_one, Option.elim_some, List.getElem?_cons_zero, List.getElem?_cons_succ, decide_true, decide_false, if_true, if_false, Bool.false_eq_true, Nat.zero_add, wBin_add64, wIdx_slice, Nat.mul_one, Int.toNat_one, c2', z1, hq, wJoin_eq, e1, n2, e2]
    exact hih 0 _ _ _ (by omega) ⟨.inr (.inr ⟨rfl, rfl⟩), rfl, rfl⟩
  simp only [List.getD_cons_zero, List.getD_cons_succ, wBin_lss, c2', z2, decide_false, wIf_bool, Bool.false_eq_true, if_false]
  rcases Nat.eq_zero_or_pos (l1.length + l2.length) with h0 | h0
  · have ez : ((l1.length + l2.length : Nat) : Int) = 0 := by omega
    rw [ez]
    refine wCall_rule (grow0 H nx) ?_
    rintro _ _ _ ⟨rfl, rfl, rfl⟩
    exact concat_loop (k := fun v H' nx' => (∃ A c, v = .slice A (l1 ++ l2).length c ∧ Sl H' nx' A (strs (l1 ++ l2))) ∧ Ext H nx H' nx') q A1 A2 l1 l2 c1 c2 H nx hq hqn hS1 hA1 hS2 hA2 hl1 hl2 _ _ _ (.inl ⟨h0, rfl, rfl⟩) (fun i _ => rfl) (Nat.le_refl _) (fun h => by omega) fun _ _ _ h => h
  · refine wCall_rule (grow101 _ h0 (by omega) H nx) ?_
    rintro _ _ _ ⟨rfl, rfl, rfl⟩
    exact concat_loop (k := fun v H' nx' => (∃ A c, v = .slice A (l1 ++ l2).length c ∧ Sl H' nx' A (strs (l1 ++ l2))) ∧ Ext H nx H' nx') q A1 A2 l1 l2 c1 c2 H nx hq hqn hS1 hA1 hS2 hA2 hl1 hl2 _ _ _ (.inr ⟨h0, rfl, Nat.zero_le _, by rw [getH_same]; simp⟩) (fun i hi => getH_ne _ (by omega)) (by omega) (fun _ => by omega) fun _ _ _ h => h
end Go.Proofs.YthbdeaeghipliaaGreatDoor

set_option linter.unusedSimpArgs false
set_option linter.unusedVariables false
set_option linter.unusedSectionVars false
namespace Go.Proofs.YthbdeaeghipliaaGreatDoor
open Go.Clo

theorem posA_mem {a : AtomR} {s : ByteArray} : s ∈ posA a ↔ a.neg = false ∧ s ≠ nul ∧ s ∈ a.terms.map TermR.var := by
  unfold posA
  cases a.neg with
  | true => simp
  | false => simp [and_comm]
/-- The map of the positive variables: those of acc. -/
def PS (H : Heap) (n0 : Nat) (acc : ByteArray → Prop) : Prop := ∃ S : ByteArray → Bool, SetM H (n0 + 1) S ∧ ∀ s, S s = true ↔ acc s
theorem PS.ext {H : Heap} {n0 nx : Nat} {acc : ByteArray → Prop} {H' : Heap} {nx' : Nat} (h : PS H n0 acc) (hn : n0 + 2 ≤ nx) (e : Ext H nx H' nx') : PS H' n0 acc := by
  obtain ⟨S, h1, h2⟩ := h
  exact ⟨S, h1.ext (by omega) e, h2⟩
theorem PS.congr {H : Heap} {n0 : Nat} {acc acc' : ByteArray → Prop} (h : PS H n0 acc) (e : ∀ s, acc s ↔ acc' s) : PS H n0 acc' := by
  obtain ⟨S, h1, h2⟩ := h
  exact ⟨S, h1, fun s => (h2 s).trans (e s)⟩

set_option maxHeartbeats 2000000 in
theorem positive72 (r : RuleR) (H : Heap) (nx : Nat) (hA : RuleOK H nx r) (hB : RuleB r) : Ans Tryz.prog 72 [.agg ⟨ruleC r⟩] H nx fun v H' nx' => (v = .map (some (nx + 1)) ∧ nx + 2 ≤ nx' ∧ PS H' nx fun s => s ∈ posOf r) ∧ Ext H nx H' nx' := by
  refine spec72 ?_
  unfold F72
  unfold ruleC
  have hb8 := hB.atoms
  simp (disch := first | omega | assumption | exact shr_lt (by assumption) | exact ndiff32 (by assumption) | exact below_lt (by omega) | fail) only [wFld_eq, wLen_slice, wNew_eq, dBox_agg, oneCells, wLd_none, ldP_cells, cellP_one, getH_same, getH_ne, forceV_eq, Option.elim_some, List.getElem?_cons_zero, Yld.val, if_true, Nat.zero_add, Nat.add_zero, true_and, dMmap_noneQ]
  generalize hK : hs (hs H nx (some (.cells [.slice r.AA r.atoms.length r.ac, .slice r.CA r.conds.length r.cc] 0))) (nx + 1) (some (.map [] 0)) = K
  have kM : getH K (nx + 1) = some (.map [] 0) := by rw [← hK, getH_same]
  have kE : Ext H nx K (nx + 1 + 1) := ⟨by omega, fun i hi => by rw [← hK, getH_ne _ (by omega), getH_ne _ (by omega)]⟩
  refine wLoop_rule (m := r.atoms.length) (fun m L H' nx' => ∃ i : Nat, m + i = r.atoms.length ∧ L = [.int .i64 (i : Int)] ∧ PS H' nx (fun s => s ∈ (r.atoms.take i).flatMap posA) ∧ nx + 2 ≤ nx' ∧ ∀ q, q < nx → getH H' q = getH H q) ?_ ⟨0, rfl, rfl, ⟨_, SetM.nil kM, fun s => by simp⟩, by omega, kE.get⟩
  rintro m ih L H2 nx2 ⟨i, hm, rfl, hps, hn2, hlow⟩ hih
  have hE2 : Ext H nx H2 nx2 := ⟨by omega, hlow⟩
  simp (disch := first | omega | assumption | exact shr_lt (by assumption) | exact ndiff32 (by assumption) | exact below_lt (by omega) | fail) only [List.getD_cons_zero, wBin_lss, wIf_bool, wBin_add64]
  by_cases hi : i < r.atoms.length
  case neg =>
    have hi' : ¬ (i : Int) < (r.atoms.length : Int) := by omega
    simp (disch := first | omega | assumption | exact shr_lt (by assumption) | exact ndiff32 (by assumption) | exact below_lt (by omega) | fail) only [decide_false, if_false, Bool.false_eq_true, hi']
    rw [List.take_of_length_le (by omega)] at hps
    exact ⟨⟨hn2, hps⟩, hE2⟩
  have hi' : (i : Int) < (r.atoms.length : Int) := by omega
  obtain ⟨a, ha⟩ : ∃ a, r.atoms[i]? = some a := ⟨_, List.getElem?_eq_getElem hi⟩
  have ham := List.mem_of_getElem? ha
  have ht6 := hB.terms a ham
  obtain ⟨b, o, row, hAA, hb, hrow, _, hcell⟩ := Sl.elem (hA.ext hE2).atoms atomC_len (by omega) ha
  unfold atomC at hcell
  rw [hAA]
  simp (disch := first | omega | assumption | exact shr_lt (by assumption) | exact ndiff32 (by assumption) | exact below_lt (by omega) | fail) only [wLen_slice, oneCells, wLd_3, ldP_cells, cellP_one, getH_same, Option.elim_some, List.getElem?_cons_zero, List.getElem?_cons_succ, decide_true, if_true, Nat.zero_add, true_and, and_self, wIdx_slice, Int.toNat_natCast, wSt_agg, stP_cells, List.length_cons, List.length_nil, Nat.le_refl, Nat.reduceAdd, hi', ldP_row hrow, hcell, putL_lit3]
  have hE3 : Ext H2 nx2 (hs (hs H2 nx2 (some (.cells [.bool false, .string ⟨#[]⟩, .slice none 0 0] 0))) nx2 (some (.cells [.bool a.neg, .string a.rel, .slice a.TA a.terms.length a.tc] 0))) (nx2 + 1) := ((Ext.refl H2 nx2).new _ (Nat.le_refl _) (by omega) : Ext H2 nx2 _ (nx2 + 1)).hs (Nat.le_refl _)
  have hps3 := hps.ext hn2 hE3
  have hg3 : getH (hs (hs H2 nx2 (some (.cells [.bool false, .string ⟨#[]⟩, .slice none 0 0] 0))) nx2 (some (.cells [.bool a.neg, .string a.rel, .slice a.TA a.terms.length a.tc] 0))) nx2 = some (.cells [.bool a.neg, .string a.rel, .slice a.TA a.terms.length a.tc] 0) := getH_same _ _ _
  have hlow3 : ∀ q, q < nx → getH (hs (hs H2 nx2 (some (.cells [.bool false, .string ⟨#[]⟩, .slice none 0 0] 0))) nx2 (some (.cells [.bool a.neg, .string a.rel, .slice a.TA a.terms.length a.tc] 0))) q = getH H q := fun q hq => (hE3.get q (by omega)).trans (hlow q hq)
  generalize hs (hs H2 nx2 (some (.cells [.bool false, .string ⟨#[]⟩, .slice none 0 0] 0))) nx2 (some (.cells [.bool a.neg, .string a.rel, .slice a.TA a.terms.length a.tc] 0)) = H3 at hE3 hps3 hg3 hlow3 ⊢
  refine wLoop_rule (m := a.terms.length) (fun m L H' nx' => ∃ j : Nat, m + j = a.terms.length ∧ L = [.int .i64 (j : Int)] ∧ PS H' nx (fun s => s ∈ (r.atoms.take i).flatMap posA ∨ (a.neg = false ∧ s ≠ nul ∧ s ∈ (a.terms.take j).map TermR.var)) ∧ nx2 + 1 ≤ nx' ∧ getH H' nx2 = some (.cells [.bool a.neg, .string a.rel, .slice a.TA a.terms.length a.tc] 0) ∧ ∀ q, q < nx → getH H' q = getH H q) ?_
    ⟨0, rfl, rfl, hps3.congr fun s => by simp, Nat.le_refl _, hg3, hlow3⟩
  rintro m4 ih4 L4 H4 nx4 ⟨j, hm4, rfl, hps4, hn4, hg4, hlow4⟩ hih4
  have hE4 : Ext H nx H4 nx4 := ⟨by omega, hlow4⟩
  simp (disch := first | omega | assumption | exact shr_lt (by assumption) | exact ndiff32 (by assumption) | exact below_lt (by omega) | fail) only [List.getD_cons_zero, wBin_lss, wIf_bool, wBin_add64]
  by_cases hj : j < a.terms.length
  case neg =>
    have hj' : ¬ (j : Int) < (a.terms.length : Int) := by omega
    have e : a.terms.take j = a.terms := List.take_of_length_le (by omega)
    rw [e] at hps4
    simp (disch := first | omega | assumption | exact shr_lt (by assumption) | exact ndiff32 (by assumption) | exact below_lt (by omega) | fail) only [decide_false, if_false, Bool.false_eq_true, hj']
    refine hih (m - 1) _ _ _ (by omega) ⟨i + 1, by omega, by simp, hps4.congr fun s => ?_, by omega, hlow4⟩
    rw [take_snocB ha, List.flatMap_append, List.mem_append, ← posA_mem]
    simp
  have hj' : (j : Int) < (a.terms.length : Int) := by omega
  obtain ⟨t, ht⟩ : ∃ t, a.terms[j]? = some t := ⟨_, List.getElem?_eq_getElem hj⟩
  obtain ⟨b5, o5, row5, hTA, hb5, hrow5, _, hcell5⟩ := Sl.elem (show Sl H4 nx4 a.TA (a.terms.flatMap termC) from (hA.terms a ham).ext hE4) termC_len (by omega) ht
  unfold termC at hcell5
  have hstep : ∀ s, s ∈ (a.terms.take (j + 1)).map TermR.var ↔ s ∈ (a.terms.take j).map TermR.var ∨ s = t.var := fun s => by
    rw [take_snocB ht, List.map_append, List.mem_append]; simp
  rw [hTA] at hg4 ⊢
  simp (disch := first | omega | assumption | exact shr_lt (by assumption) | exact ndiff32 (by assumption) | exact below_lt (by omega) | fail) only [oneCells, ldP_cells, cellP_one, getH_same, getH_ne, Option.elim_some, List.getElem?_cons_zero, decide_true, if_true, Nat.zero_add, true_and, and_self, wIdx_slice, Int.toNat_natCast, wSt_agg, stP_cells, List.length_cons, List.length_nil, Nat.le_refl, Nat.reduceAdd, hj', ldP_row hrow5, hcell5, wLd_4, putL_lit4]
  have hE5 : Ext H4 nx4 (hs (hs H4 nx4 (some (.cells [.string ⟨#[]⟩, .int .i64 0, .int .i64 0, .string ⟨#[]⟩] 0))) nx4 (some (.cells [.string t.var, .int .i64 t.kind, .int .i64 t.int, .string t.str] 0))) (nx4 + 1) := ((Ext.refl H4 nx4).new _ (Nat.le_refl _) (by omega) : Ext H4 nx4 _ (nx4 + 1)).hs (Nat.le_refl _)
  have hps5 := hps4.ext (by omega) hE5
  have hg5 := (hE5.get nx2 (by omega)).trans hg4
  have hlow5 : ∀ q, q < nx → getH (hs (hs H4 nx4 (some (.cells [.string ⟨#[]⟩, .int .i64 0, .int .i64 0, .string ⟨#[]⟩] 0))) nx4 (some (.cells [.string t.var, .int .i64 t.kind, .int .i64 t.int, .string t.str] 0))) q = getH H q := fun q hq => (hE5.get q (by omega)).trans (hlow4 q hq)
  have ht5 : getH (hs (hs H4 nx4 (some (.cells [.string ⟨#[]⟩, .int .i64 0, .int .i64 0, .string ⟨#[]⟩] 0))) nx4 (some (.cells [.string t.var, .int .i64 t.kind, .int .i64 t.int, .string t.str] 0))) nx4 = some (.cells [.string t.var, .int .i64 t.kind, .int .i64 t.int, .string t.str] 0) := getH_same _ _ _
  generalize hs (hs H4 nx4 (some (.cells [.string ⟨#[]⟩, .int .i64 0, .int .i64 0, .string ⟨#[]⟩] 0))) nx4 (some (.cells [.string t.var, .int .i64 t.kind, .int .i64 t.int, .string t.str] 0)) = H5 at hE5 hps5 hg5 hlow5 ht5 ⊢
  have skip : ¬ (a.neg = false ∧ t.var ≠ nul) → ih4 [.int .i64 ((j : Int) + 1)] H5 (nx4 + 1) := fun hno =>
    hih4 (m4 - 1) _ _ _ (by omega) ⟨j + 1, by omega, by simp, hps5.congr fun s => by
      rw [hstep]
      constructor
      · rintro (h | ⟨h1, h2, h3⟩)
        · exact .inl h
        · exact .inr ⟨h1, h2, .inl h3⟩
      · rintro (h | ⟨h1, h2, h3 | h3⟩)
        · exact .inl h
        · exact .inr ⟨h1, h2, h3⟩
        · subst h3; exact absurd ⟨h1, h2⟩ hno, by omega, by rw [hTA]; exact hg5, hlow5⟩
  cases hneg : a.neg with
  | true =>
    simp (disch := first | omega | assumption | exact shr_lt (by assumption) | exact ndiff32 (by assumption) | exact below_lt (by omega) | fail) only [List.getD_cons_zero, wIf_bool, wGuard_true, wUn_not, ldP_cells, cellP_one, Option.elim_some, List.getElem?_cons_zero, if_false, Bool.false_eq_true, Bool.not_true, wJoin_eq, hg4, hneg]
    exact skip fun h => by rw [hneg] at h; cases h.1
  | false =>
    by_cases hv : t.var = nul
    · have dv : decide (t.var = ⟨#[]⟩) = true := by simp [hv, nul]
      simp (disch := first | omega | assumption | exact shr_lt (by assumption) | exact ndiff32 (by assumption) | exact below_lt (by omega) | fail) only [List.getD_cons_zero, wIf_bool, wGuard_true, wUn_not, ldP_cells, cellP_one, Option.elim_some, List.getElem?_cons_zero, if_true, if_false, Bool.false_eq_true, Bool.not_true, Bool.not_false, wJoin_eq, hg4, hneg, ht5, wBin_strne, dv]
      exact skip fun h => h.2 hv
    · have dv : decide (t.var = ⟨#[]⟩) = false := by simpa [nul] using hv
      obtain ⟨S, hS, hSs⟩ := hps5
      simp (disch := first | omega | assumption | exact shr_lt (by assumption) | exact ndiff32 (by assumption) | exact below_lt (by omega) | fail) only [List.getD_cons_zero, wIf_bool, wGuard_true, wUn_not, ldP_cells, cellP_one, Option.elim_some, List.getElem?_cons_zero, if_true, Bool.not_false, wJoin_eq, hg4, hneg, ht5, wBin_strne, dv]
      refine hS.put t.var ?_
      intro blk hput
      refine hih4 (m4 - 1) _ _ _ (by omega) ⟨j + 1, by omega, by simp, ⟨_, hput, fun s => ?_⟩, by omega, by rw [getH_ne _ (by omega), hTA]; exact hg5, fun q hq => by rw [getH_ne _ (by omega)]; exact hlow5 q hq⟩
      rw [Bool.or_eq_true, hSs, decide_eq_true_eq]
      show _ ↔ (s ∈ (r.atoms.take i).flatMap posA ∨ (a.neg = false ∧ s ≠ nul ∧ s ∈ (a.terms.take (j + 1)).map TermR.var))
      rw [hstep]
      constructor
      · rintro ((h | ⟨h1, h2, h3⟩) | rfl)
        · exact .inl h
        · exact .inr ⟨h1, h2, .inl h3⟩
        · exact .inr ⟨hneg, hv, .inr rfl⟩
      · rintro (h | ⟨h1, h2, h3 | h3⟩)
        · exact .inl (.inl h)
        · exact .inl (.inr ⟨h1, h2, h3⟩)
        · exact .inr h3
end Go.Proofs.YthbdeaeghipliaaGreatDoor
