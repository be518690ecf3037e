/-
  Contracts: the program's ParseVerdict (a map from names to indices; a loop over the parts).
-/
import Derived.Test.YtjpgddpobnjmkaaDoorK21
import Derived.Test.YtjpgddpobnjmkaaDoorK22
set_option linter.unusedSimpArgs false
set_option linter.unusedVariables false
set_option linter.unusedSectionVars false
namespace Go.Proofs.YtjpgddpobnjmkaaDoor
open Go.Clo

theorem code_nodup {vs : List ByteArray} (h : codeOf vs = 0) : vs.Nodup := by
  unfold codeOf at h
  split at h
  · cases h
  · split at h
    · assumption
    · cases h
def entA (vs : List ByteArray) (j : Nat) : MapEntry := { key := .string (vs.getD j emp), val := .int .i64 (j : Int), born := j }
def entL (vs : List ByteArray) (i : Nat) : List MapEntry := (List.range i).map (entA vs)
theorem ent_get {vs : List ByteArray} {i j : Nat} (h : j < i) : (entL vs i)[j]? = some (entA vs j) := by simp [entL, h]
theorem ent_key {vs : List ByteArray} {i : Nat} : ∀ x ∈ entL vs i, MapKept.IsKey .string x.key := by
  intro x hx
  obtain ⟨j, _, rfl⟩ := List.mem_map.1 hx
  trivial
theorem find_ent (vs : List ByteArray) (i : Nat) (s : ByteArray) : (Instr.findNow .string (.string s) (entL vs i) 0 = some none ∧ ∀ j, j < i → vs.getD j emp ≠ s) ∨ ∃ j, j < i ∧ Instr.findNow .string (.string s) (entL vs i) 0 = some (some (j, .int .i64 (j : Int))) ∧ vs.getD j emp = s := by
  rcases MapKept.findNow_spec (d := .string) (k := .string s) trivial (entL vs i) 0 ent_key with ⟨h1, h2⟩ | ⟨j, e, h1, h2, h3⟩
  · exact .inl ⟨h1, fun j hj e => h2 (entA vs j) (List.mem_map.2 ⟨j, List.mem_range.2 hj, rfl⟩) (congrArg Value.string e)⟩
  · have hj : j < i := by have := (List.getElem?_eq_some_iff.1 h2).1; simpa [entL] using this
    rw [ent_get hj] at h2
    cases h2
    refine .inr ⟨j, hj, by simpa [entA] using h1, ?_⟩
    have h3' : Value.string (vs.getD j emp) = Value.string s := h3
    injection h3'
theorem ent_succ {vs : List ByteArray} {i : Nat} {z : ByteArray} (h : vs[i]? = some z) : entL vs i ++ [{ key := .string z, val := .int .i64 (i : Int), born := i }] = entL vs (i + 1) := by
  simp [entL, List.range_succ, entA, h]
theorem wUpd_new {H : Heap} {nx r clock : Nat} {es : List MapEntry} {s : ByteArray} {v : Value} (hg : getH H r = some (.map es clock)) (hf : Instr.findNow .string (.string s) es 0 = some none) (k : EP) :
    wUpd .string (.map (some r)) (.string s) v H nx k = k undef (hs H r (some (.map (es ++ [{ key := .string s, val := v, born := clock }]) (clock + 1)))) nx := by
  unfold wUpd
  dsimp only
  rw [getB_eq, hg]
  simp only [Option.elim_some, updK]
  rw [show keyKind .string (.string s) = true from rfl, hf]
  simp only [cond_true]
  rw [spine_eq, forceN_eq, hsK_eq]
theorem wLk_some {H : Heap} {r clock i : Nat} {es : List MapEntry} {s : ByteArray} {v z : Value} (hg : getH H r = some (.map es clock)) (hf : Instr.findNow .string (.string s) es 0 = some (some (i, v))) (k : VP) : wLk .string z (.map (some r)) (.string s) true H k = k (.tuple ⟨[v, .bool true]⟩) := by
  unfold wLk
  rw [show keyKind .string (.string s) = true from rfl]
  simp only [cond_true]
  rw [getB_eq, hg]
  simp only [Option.elim_some, hf]
theorem wLk_none {H : Heap} {r clock : Nat} {es : List MapEntry} {s : ByteArray} {z : Value} (hg : getH H r = some (.map es clock)) (hf : Instr.findNow .string (.string s) es 0 = some none) (k : VP) : wLk .string z (.map (some r)) (.string s) true H k = k (.tuple ⟨[z, .bool false]⟩) := by
  unfold wLk
  rw [show keyKind .string (.string s) = true from rfl]
  simp only [cond_true]
  rw [getB_eq, hg]
  simp only [Option.elim_some, hf]
theorem getD_some {vs : List ByteArray} {j : Nat} (h : j < vs.length) : vs[j]? = some (vs.getD j emp) := by
  rw [List.getD_eq_getElem?_getD, List.getElem?_eq_getElem h]; rfl
theorem find_idx {vs : List ByteArray} (hn : vs.Nodup) (s : ByteArray) : (Instr.findNow .string (.string s) (entL vs vs.length) 0 = some none ∧ idxOf vs s < 0) ∨ ∃ j, Instr.findNow .string (.string s) (entL vs vs.length) 0 = some (some (j, .int .i64 (idxOf vs s))) ∧ 0 ≤ idxOf vs s := by
  rcases find_ent vs vs.length s with ⟨h1, h2⟩ | ⟨j, hj, h1, h2⟩
  · refine .inl ⟨h1, ?_⟩
    rw [idxOf_neg]
    intro h
    obtain ⟨j, hj⟩ := List.mem_iff_getElem?.1 h
    have hjl := (List.getElem?_eq_some_iff.1 hj).1
    refine h2 j hjl ?_
    rw [getD_some hjl] at hj
    injection hj
  · have e : idxOf vs s = j := by
      refine idxOf_at (by rw [getD_some hj, h2]) fun k t hk ht he => ?_
      subst he
      have hkl : k < vs.length := by omega
      have := List.pairwise_iff_getElem.1 hn k j hkl hj hk
      apply this
      have a1 : vs[k]? = some vs[k] := List.getElem?_eq_getElem hkl
      have a2 : vs[j]? = some vs[j] := List.getElem?_eq_getElem hj
      rw [ht] at a1
      rw [getD_some hj, h2] at a2
      injection a1 with a1
      injection a2 with a2
      rw [← a1, ← a2]
    exact .inr ⟨j, by rw [e]; exact h1, by omega⟩
theorem lookup24 (q r c : Nat) (s : ByteArray) (vs : List ByteArray) (H : Heap) (nx : Nat) (hn : vs.Nodup) (hq : getH H q = some (.cells [.map (some r)] 0)) (hr : getH H r = some (.map (entL vs vs.length) c)) :
    Ans Tryd.prog 24 [.string s, .pointer (some ⟨q, 0, none⟩)] H nx fun v H' nx' => (idxOf vs s < 0 → .tuple ⟨[.int .i64 0, .bool false]⟩ = v) ∧ (0 ≤ idxOf vs s → .tuple ⟨[.int .i64 (idxOf vs s), .bool true]⟩ = v) ∧ H = H' ∧ nx = nx' := by
  refine spec24 ?_
  unfold F24
  rcases find_idx hn s with ⟨h1, h2⟩ | ⟨j, h1, h2⟩
  · simp (disch := first | omega | assumption | exact shr_lt (by assumption) | exact ndiff32 (by assumption) | exact below_lt (by omega) | fail) only [List.getD_cons_zero, List.getD_cons_succ, wBin_lss, wBin_leq, wBin_gtr, wBin_geq, wBin_eql, wBin_neq, wIf_bool, wGuard_true, wGuard_false, wPick_true, wPick_false, wUn_not, wFld_eq, wExt_eq, wPart_one, wPart_agg, wLen_slice, wLen_string, wNew_eq, wNm_eq, dBox_agg, dBox_int, dBox_slice, dBox_string, dBox_bool, dBox_map, dBox_ptr, oneCells, wLd_none, wLd_2, wLd_3, wLd_32, ldP_cells, ldP_rom, cellP_one, getH_same, getH_ne, forceV_eq, forceN_eq, hsK_eq, Option.elim_some, List.getElem?_cons_zero, List.getElem?_cons_succ, Yld.val, decide_true, decide_false, if_true, if_false, Bool.false_eq_true, Nat.zero_add, Nat.add_zero, and_true, true_and, or_false, Bool.not_true, Bool.not_false, and_self, wBin_add64, wBin_sub64, wIdx_slice, wIdx_array, wNilc_eq, Int.toNat_natCast, Nat.mul_one, Nat.zero_mul, wSt_agg, wSt_int, wSt_bool, wSt_string, wSt_slice, wSt_ptr, wSt_map, wSt_func, stP_cells, bit_one, bit_zero, bit_one', bit_zero', wBin_shr32, wBin_and1, wBin_rem2, wBin_andNot32, wBin_or32, wBin_and32, wBin_shl32, u32_eq_zero, u32_ne_zero, List.length_cons, List.length_nil, Nat.le_refl, Nat.reduceAdd, Nat.reduceMul, Nat.reduceLeDiff, Int.toNat_zero, Int.toNat_one, hq, wLk_none hr h1]
    exact ⟨fun _ => trivial, fun h => by omega⟩
  · simp (disch := first | omega | assumption | exact shr_lt (by assumption) | exact ndiff32 (by assumption) | exact below_lt (by omega) | fail) only [List.getD_cons_zero, List.getD_cons_succ, wBin_lss, wBin_leq, wBin_gtr, wBin_geq, wBin_eql, wBin_neq, wIf_bool, wGuard_true, wGuard_false, wPick_true, wPick_false, wUn_not, wFld_eq, wExt_eq, wPart_one, wPart_agg, wLen_slice, wLen_string, wNew_eq, wNm_eq, dBox_agg, dBox_int, dBox_slice, dBox_string, dBox_bool, dBox_map, dBox_ptr, oneCells, wLd_none, wLd_2, wLd_3, wLd_32, ldP_cells, ldP_rom, cellP_one, getH_same, getH_ne, forceV_eq, forceN_eq, hsK_eq, Option.elim_some, List.getElem?_cons_zero, List.getElem?_cons_succ, Yld.val, decide_true, decide_false, if_true, if_false, Bool.false_eq_true, Nat.zero_add, Nat.add_zero, and_true, true_and, or_false, Bool.not_true, Bool.not_false, and_self, wBin_add64, wBin_sub64, wIdx_slice, wIdx_array, wNilc_eq, Int.toNat_natCast, Nat.mul_one, Nat.zero_mul, wSt_agg, wSt_int, wSt_bool, wSt_string, wSt_slice, wSt_ptr, wSt_map, wSt_func, stP_cells, bit_one, bit_zero, bit_one', bit_zero', wBin_shr32, wBin_and1, wBin_rem2, wBin_andNot32, wBin_or32, wBin_and32, wBin_shl32, u32_eq_zero, u32_ne_zero, List.length_cons, List.length_nil, Nat.le_refl, Nat.reduceAdd, Nat.reduceMul, Nat.reduceLeDiff, Int.toNat_zero, Int.toNat_one, hq, wLk_some hr h1]
    exact ⟨fun h => by omega, fun _ => trivial⟩

theorem wBuild_0 (k : VP) : wBuild [.int .i64 0, .slice none 0 0, .slice none 0 0] [(0, 1), (1, 1), (2, 1)] [] k = k (.agg ⟨[.int .i64 0, .slice none 0 0, .slice none 0 0]⟩) := spine_eq _ _
theorem wBuild_1 (x : Int) (A : Option Addr) (n c : Nat) (k : VP) : wBuild [.int .i64 0, .slice none 0 0, .slice none 0 0] [(0, 1), (1, 1), (2, 1)] [(0, .int .i64 x), (1, .slice A n c)] k = k (.agg ⟨[.int .i64 x, .slice A n c, .slice none 0 0]⟩) := spine_eq _ _
theorem wBuild_2 (x : Int) (A : Option Addr) (n c : Nat) (k : VP) : wBuild [.int .i64 0, .slice none 0 0, .slice none 0 0] [(0, 1), (1, 1), (2, 1)] [(0, .int .i64 x), (2, .slice A n c)] k = k (.agg ⟨[.int .i64 x, .slice none 0 0, .slice A n c]⟩) := spine_eq _ _
theorem dMmap_none (k : Prop) : dMmap none k = k := rfl
theorem putL_lit1 (a x : Value) : putL [a] 0 [x] = [x] := rfl
theorem wSl_one {H : Heap} {b n : Nat} {c : List Value} (hg : getH H b = some (.cells c 0)) (hl : 1 ≤ n) (k : VP) : wSl (.slice (some ⟨b, 0, none⟩) n n) 1 (some (.int .i64 1)) none none H k = k (.slice (some ⟨b, if n = 1 then 0 else 1, none⟩) (n - 1) (n - 1)) := by
  by_cases h : n = 1
  · subst h
    unfold wSl
    dsimp only
    rw [getB_eq, hg]
    simp only [Option.elim_some, slB]
    rw [show looseA (.cells c 0) 0 1 1 = some false from rfl]
    exact force1_eq _ _
  · rw [if_neg h]
    exact wSl_lo (l := 1) hg (by omega) (.inl rfl) k

/-- The lists of a verdict of this kind. -/
def VOK (lo : Nat) (H : Heap) (nx : Nat) (kind : Int) (l : List Int) (P W : Value) : Prop :=
  (kind = 0 → AccL lo H nx P (i64s l) ∧ W = .slice none 0 0) ∧ (kind ≠ 0 → AccL lo H nx W (i64s l) ∧ P = .slice none 0 0)
theorem VOK.nil (lo : Nat) (H : Heap) (nx : Nat) : VOK lo H nx 0 [] (.slice none 0 0) (.slice none 0 0) := ⟨fun _ => ⟨AccL.zero _ _ _, rfl⟩, fun h => absurd rfl h⟩

set_option maxHeartbeats 4000000 in
theorem parse11 (A : Option Addr) (vs : List ByteArray) (s : ByteArray) (cap : Nat) (H : Heap) (nx : Nat) (hS : Sl H nx A (strs vs)) (hA0 : Has H nx A) (hcap : A = none → cap = 0) (hv : Short vs) (hlv : vs.length ≤ 1000) (hs : s.size ≤ 100000) :
    Ans Tryd.prog 11 [.slice A vs.length cap, .string s] H nx fun r H' nx' => (∃ P W, r = .tuple ⟨[.agg ⟨[.int .i64 (parseOf vs s).1, P, W]⟩, .int .i64 (parseOf vs s).2.2]⟩ ∧ VOK nx H' nx' (parseOf vs s).1 (parseOf vs s).2.1 P W) ∧ Ext H nx H' nx' := by
  refine spec11 ?_
  unfold F11
  have hX : Ext H nx (Go.Clo.hs H nx (some (.cells [.int .i64 0, .slice none 0 0, .slice none 0 0] 0))) (nx + 1) := (Ext.refl H nx).new _ (Nat.le_refl _) (by omega)
  have hg1 : getH (Go.Clo.hs H nx (some (.cells [.int .i64 0, .slice none 0 0, .slice none 0 0] 0))) nx = some (.cells [.int .i64 0, .slice none 0 0, .slice none 0 0] 0) := getH_same _ _ _
  simp (disch := first | omega | assumption | exact shr_lt (by assumption) | exact ndiff32 (by assumption) | exact below_lt (by omega) | fail) only [List.getD_cons_zero, List.getD_cons_succ, wBin_lss, wBin_leq, wBin_gtr, wBin_geq, wBin_eql, wBin_neq, wIf_bool, wGuard_true, wGuard_false, wPick_true, wPick_false, wUn_not, wFld_eq, wExt_eq, wPart_one, wPart_agg, wLen_slice, wLen_string, wNew_eq, wNm_eq, dBox_agg, dBox_int, dBox_slice, dBox_string, dBox_bool, dBox_map, dBox_ptr, oneCells, wLd_none, wLd_2, wLd_3, wLd_32, ldP_cells, ldP_rom, cellP_one, getH_same, getH_ne, forceV_eq, forceN_eq, hsK_eq, Option.elim_some, List.getElem?_cons_zero, List.getElem?_cons_succ, Yld.val, decide_true, decide_false, if_true, if_false, Bool.false_eq_true, Nat.zero_add, Nat.add_zero, and_true, true_and, or_false, Bool.not_true, Bool.not_false, and_self, wBin_add64, wBin_sub64, wIdx_slice, wIdx_array, wNilc_eq, Int.toNat_natCast, Nat.mul_one, Nat.zero_mul, wSt_agg, wSt_int, wSt_bool, wSt_string, wSt_slice, wSt_ptr, wSt_map, wSt_func, stP_cells, bit_one, bit_zero, bit_one', bit_zero', wBin_shr32, wBin_and1, wBin_rem2, wBin_andNot32, wBin_or32, wBin_and32, wBin_shl32, u32_eq_zero, u32_ne_zero, List.length_cons, List.length_nil, Nat.le_refl, Nat.reduceAdd, Nat.reduceMul, Nat.reduceLeDiff, Int.toNat_zero, Int.toNat_one]
  generalize Go.Clo.hs H nx (some (.cells [.int .i64 0, .slice none 0 0, .slice none 0 0] 0)) = H1 at hX hg1 ⊢
  refine wCall_rule (checked14 A vs cap H1 (nx + 1) (hS.ext hX) (hA0.ext hX) hcap hv hlv) ?_
  rintro _ H2 n2 ⟨rfl, hE2⟩
  have hn2 := hE2.le
  have hE02 := hX.trans hE2
  have hg2 : getH H2 nx = some (.cells [.int .i64 0, .slice none 0 0, .slice none 0 0] 0) := by rw [hE2.get nx (by omega)]; exact hg1
  by_cases h0 : codeOf vs = 0
  · have d : decide (codeOf vs ≠ 0) = false := by simp [h0]
    have hnd := code_nodup h0
    simp (disch := first | omega | assumption | exact shr_lt (by assumption) | exact ndiff32 (by assumption) | exact below_lt (by omega) | fail) only [List.getD_cons_zero, List.getD_cons_succ, wBin_lss, wBin_leq, wBin_gtr, wBin_geq, wBin_eql, wBin_neq, wIf_bool, wGuard_true, wGuard_false, wPick_true, wPick_false, wUn_not, wFld_eq, wExt_eq, wPart_one, wPart_agg, wLen_slice, wLen_string, wNew_eq, wNm_eq, dBox_agg, dBox_int, dBox_slice, dBox_string, dBox_bool, dBox_map, dBox_ptr, oneCells, wLd_none, wLd_2, wLd_3, wLd_32, ldP_cells, ldP_rom, cellP_one, getH_same, getH_ne, forceV_eq, forceN_eq, hsK_eq, Option.elim_some, List.getElem?_cons_zero, List.getElem?_cons_succ, Yld.val, decide_true, decide_false, if_true, if_false, Bool.false_eq_true, Nat.zero_add, Nat.add_zero, and_true, true_and, or_false, Bool.not_true, Bool.not_false, and_self, wBin_add64, wBin_sub64, wIdx_slice, wIdx_array, wNilc_eq, Int.toNat_natCast, Nat.mul_one, Nat.zero_mul, wSt_agg, wSt_int, wSt_bool, wSt_string, wSt_slice, wSt_ptr, wSt_map, wSt_func, stP_cells, bit_one, bit_zero, bit_one', bit_zero', wBin_shr32, wBin_and1, wBin_rem2, wBin_andNot32, wBin_or32, wBin_and32, wBin_shl32, u32_eq_zero, u32_ne_zero, List.length_cons, List.length_nil, Nat.le_refl, Nat.reduceAdd, Nat.reduceMul, Nat.reduceLeDiff, Int.toNat_zero, Int.toNat_one, d]
    refine wCall_rule (split21 s H2 n2 hs) ?_
    rintro _ H4 _ ⟨rfl, hg4, rfl, hE4⟩
    have hE04 := hE02.trans hE4
    have hpos := splitS_pos s
    have hple := splitS_le s
    obtain ⟨p0, tl, hp⟩ := split_open s
    have hltl : (splitS s).length = tl.length + 1 := by rw [hp]; rfl
    have hp0 : (splitS s)[0]? = some p0 := by rw [hp]; rfl
    have hk0 : (splitS s).headD emp = p0 := by rw [hp]; rfl
    have htl : (splitS s).tail = tl := by rw [hp]; rfl
    simp (disch := first | omega | assumption | exact shr_lt (by assumption) | exact ndiff32 (by assumption) | exact below_lt (by omega) | fail) only [List.getD_cons_zero, List.getD_cons_succ, wBin_lss, wBin_leq, wBin_gtr, wBin_geq, wBin_eql, wBin_neq, wIf_bool, wGuard_true, wGuard_false, wPick_true, wPick_false, wUn_not, wFld_eq, wExt_eq, wPart_one, wPart_agg, wLen_slice, wLen_string, wNew_eq, wNm_eq, dBox_agg, dBox_int, dBox_slice, dBox_string, dBox_bool, dBox_map, dBox_ptr, oneCells, wLd_none, wLd_2, wLd_3, wLd_32, ldP_cells, ldP_rom, cellP_one, getH_same, getH_ne, forceV_eq, forceN_eq, hsK_eq, Option.elim_some, List.getElem?_cons_zero, List.getElem?_cons_succ, Yld.val, decide_true, decide_false, if_true, if_false, Bool.false_eq_true, Nat.zero_add, Nat.add_zero, and_true, true_and, or_false, Bool.not_true, Bool.not_false, and_self, wBin_add64, wBin_sub64, wIdx_slice, wIdx_array, wNilc_eq, Int.toNat_natCast, Nat.mul_one, Nat.zero_mul, wSt_agg, wSt_int, wSt_bool, wSt_string, wSt_slice, wSt_ptr, wSt_map, wSt_func, stP_cells, bit_one, bit_zero, bit_one', bit_zero', wBin_shr32, wBin_and1, wBin_rem2, wBin_andNot32, wBin_or32, wBin_and32, wBin_shl32, u32_eq_zero, u32_ne_zero, List.length_cons, List.length_nil, Nat.le_refl, Nat.reduceAdd, Nat.reduceMul, Nat.reduceLeDiff, Int.toNat_zero, Int.toNat_one]
    refine wCall_rule (words15 H4 (n2 + 1 + 6)) ?_
    rintro _ _ _ ⟨rfl, rfl, rfl⟩
    have hX6 : Ext H4 (n2 + 1) (Go.Clo.hs H4 (n2 + 1 + 6) (some (.cells (strs wordL) 0))) (n2 + 1 + 6 + 1) := (Ext.refl _ _).new _ (by omega) (by omega)
    have hw : Sl (Go.Clo.hs H4 (n2 + 1 + 6) (some (.cells (strs wordL) 0))) (n2 + 1 + 6 + 1) (some ⟨n2 + 1 + 6, 0, none⟩) (strs wordL) := fun i u hu => ⟨n2 + 1 + 6, 0, strs wordL, rfl, Nat.lt_succ_self _, by simp [rowOf, getH_same, Blk.row], by simpa using hu⟩
    have hg6 : getH (Go.Clo.hs H4 (n2 + 1 + 6) (some (.cells (strs wordL) 0))) n2 = some (.cells (strs (splitS s)) 0) := by rw [hX6.get n2 (by omega)]; exact hg4
    generalize Go.Clo.hs H4 (n2 + 1 + 6) (some (.cells (strs wordL) 0)) = H6 at hX6 hw hg6 ⊢
    generalize hN : n2 + 1 + 6 + 1 = N at hX6 hw ⊢
    have hE06 := hE04.trans hX6
    have hgn : getH H6 nx = some (.cells [.int .i64 0, .slice none 0 0, .slice none 0 0] 0) := by rw [hX6.get nx (by omega), hE4.get nx (by omega)]; exact hg2
    have hl0 : (0 : Int) < ((splitS s).length : Int) := by omega
    simp (disch := first | omega | assumption | exact shr_lt (by assumption) | exact ndiff32 (by assumption) | exact below_lt (by omega) | fail) only [List.getD_cons_zero, List.getD_cons_succ, wBin_lss, wBin_leq, wBin_gtr, wBin_geq, wBin_eql, wBin_neq, wIf_bool, wGuard_true, wGuard_false, wPick_true, wPick_false, wUn_not, wFld_eq, wExt_eq, wPart_one, wPart_agg, wLen_slice, wLen_string, wNew_eq, wNm_eq, dBox_agg, dBox_int, dBox_slice, dBox_string, dBox_bool, dBox_map, dBox_ptr, oneCells, wLd_none, wLd_2, wLd_3, wLd_32, ldP_cells, ldP_rom, cellP_one, getH_same, getH_ne, forceV_eq, forceN_eq, hsK_eq, Option.elim_some, List.getElem?_cons_zero, List.getElem?_cons_succ, Yld.val, decide_true, decide_false, if_true, if_false, Bool.false_eq_true, Nat.zero_add, Nat.add_zero, and_true, true_and, or_false, Bool.not_true, Bool.not_false, and_self, wBin_add64, wBin_sub64, wIdx_slice, wIdx_array, wNilc_eq, Int.toNat_natCast, Nat.mul_one, Nat.zero_mul, wSt_agg, wSt_int, wSt_bool, wSt_string, wSt_slice, wSt_ptr, wSt_map, wSt_func, stP_cells, bit_one, bit_zero, bit_one', bit_zero', wBin_shr32, wBin_and1, wBin_rem2, wBin_andNot32, wBin_or32, wBin_and32, wBin_shl32, u32_eq_zero, u32_ne_zero, List.length_cons, List.length_nil, Nat.le_refl, Nat.reduceAdd, Nat.reduceMul, Nat.reduceLeDiff, Int.toNat_zero, Int.toNat_one, hl0, hg6, strs_get hp0]
    refine wCall_rule (index22 _ wordL p0 4 H6 N hw (by decide)) ?_
    rintro _ _ _ ⟨rfl, rfl, rfl⟩
    simp (disch := first | omega | assumption | exact shr_lt (by assumption) | exact ndiff32 (by assumption) | exact below_lt (by omega) | fail) only [List.getD_cons_zero, List.getD_cons_succ, wBin_lss, wBin_leq, wBin_gtr, wBin_geq, wBin_eql, wBin_neq, wIf_bool, wGuard_true, wGuard_false, wPick_true, wPick_false, wUn_not, wFld_eq, wExt_eq, wPart_one, wPart_agg, wLen_slice, wLen_string, wNew_eq, wNm_eq, dBox_agg, dBox_int, dBox_slice, dBox_string, dBox_bool, dBox_map, dBox_ptr, oneCells, wLd_none, wLd_2, wLd_3, wLd_32, ldP_cells, ldP_rom, cellP_one, getH_same, getH_ne, forceV_eq, forceN_eq, hsK_eq, Option.elim_some, List.getElem?_cons_zero, List.getElem?_cons_succ, Yld.val, decide_true, decide_false, if_true, if_false, Bool.false_eq_true, Nat.zero_add, Nat.add_zero, and_true, true_and, or_false, Bool.not_true, Bool.not_false, and_self, wBin_add64, wBin_sub64, wIdx_slice, wIdx_array, wNilc_eq, Int.toNat_natCast, Nat.mul_one, Nat.zero_mul, wSt_agg, wSt_int, wSt_bool, wSt_string, wSt_slice, wSt_ptr, wSt_map, wSt_func, stP_cells, bit_one, bit_zero, bit_one', bit_zero', wBin_shr32, wBin_and1, wBin_rem2, wBin_andNot32, wBin_or32, wBin_and32, wBin_shl32, u32_eq_zero, u32_ne_zero, List.length_cons, List.length_nil, Nat.le_refl, Nat.reduceAdd, Nat.reduceMul, Nat.reduceLeDiff, Int.toNat_zero, Int.toNat_one, hg4, hg6, strs_get hp0]
    by_cases hk : idxOf wordL p0 < 0
    · simp (disch := first | omega | assumption | exact shr_lt (by assumption) | exact ndiff32 (by assumption) | exact below_lt (by omega) | fail) only [List.getD_cons_zero, List.getD_cons_succ, wBin_lss, wBin_leq, wBin_gtr, wBin_geq, wBin_eql, wBin_neq, wIf_bool, wGuard_true, wGuard_false, wPick_true, wPick_false, wUn_not, wFld_eq, wExt_eq, wPart_one, wPart_agg, wLen_slice, wLen_string, wNew_eq, wNm_eq, dBox_agg, dBox_int, dBox_slice, dBox_string, dBox_bool, dBox_map, dBox_ptr, oneCells, wLd_none, wLd_2, wLd_3, wLd_32, ldP_cells, ldP_rom, cellP_one, getH_same, getH_ne, forceV_eq, forceN_eq, hsK_eq, Option.elim_some, List.getElem?_cons_zero, List.getElem?_cons_succ, Yld.val, decide_true, decide_false, if_true, if_false, Bool.false_eq_true, Nat.zero_add, Nat.add_zero, and_true, true_and, or_false, Bool.not_true, Bool.not_false, and_self, wBin_add64, wBin_sub64, wIdx_slice, wIdx_array, wNilc_eq, Int.toNat_natCast, Nat.mul_one, Nat.zero_mul, wSt_agg, wSt_int, wSt_bool, wSt_string, wSt_slice, wSt_ptr, wSt_map, wSt_func, stP_cells, bit_one, bit_zero, bit_one', bit_zero', wBin_shr32, wBin_and1, wBin_rem2, wBin_andNot32, wBin_or32, wBin_and32, wBin_shl32, u32_eq_zero, u32_ne_zero, List.length_cons, List.length_nil, Nat.le_refl, Nat.reduceAdd, Nat.reduceMul, Nat.reduceLeDiff, Int.toNat_zero, Int.toNat_one, wJoin_eq, hk, wBuild_0, hgn, putL_lit3, cellP_lit3]
      rw [parseOf_form h0 (.inl (by rw [hk0]; exact hk))]
      exact ⟨⟨_, _, rfl, VOK.nil _ _ _⟩, hE06.hs (Nat.le_refl _)⟩
    refine wJoin_rule (fun L H' nx' => L = [.bool (decide (0 ≤ idxOf (splitS s) emp))] ∧ H6 = H' ∧ N = nx') ?_ ?_
    · intro j hj
      simp (disch := first | omega | assumption | exact shr_lt (by assumption) | exact ndiff32 (by assumption) | exact below_lt (by omega) | fail) only [List.getD_cons_zero, List.getD_cons_succ, wBin_lss, wBin_leq, wBin_gtr, wBin_geq, wBin_eql, wBin_neq, wIf_bool, wGuard_true, wGuard_false, wPick_true, wPick_false, wUn_not, wFld_eq, wExt_eq, wPart_one, wPart_agg, wLen_slice, wLen_string, wNew_eq, wNm_eq, dBox_agg, dBox_int, dBox_slice, dBox_string, dBox_bool, dBox_map, dBox_ptr, oneCells, wLd_none, wLd_2, wLd_3, wLd_32, ldP_cells, ldP_rom, cellP_one, getH_same, getH_ne, forceV_eq, forceN_eq, hsK_eq, Option.elim_some, List.getElem?_cons_zero, List.getElem?_cons_succ, Yld.val, decide_true, decide_false, if_true, if_false, Bool.false_eq_true, Nat.zero_add, Nat.add_zero, and_true, true_and, or_false, Bool.not_true, Bool.not_false, and_self, wBin_add64, wBin_sub64, wIdx_slice, wIdx_array, wNilc_eq, Int.toNat_natCast, Nat.mul_one, Nat.zero_mul, wSt_agg, wSt_int, wSt_bool, wSt_string, wSt_slice, wSt_ptr, wSt_map, wSt_func, stP_cells, bit_one, bit_zero, bit_one', bit_zero', wBin_shr32, wBin_and1, wBin_rem2, wBin_andNot32, wBin_or32, wBin_and32, wBin_shl32, u32_eq_zero, u32_ne_zero, List.length_cons, List.length_nil, Nat.le_refl, Nat.reduceAdd, Nat.reduceMul, Nat.reduceLeDiff, Int.toNat_zero, Int.toNat_one, hk]
      refine wCall_rule (contains23 (some ⟨n2, 0, none⟩) (splitS s) emp (splitS s).length H6 N (fun i u hu => ⟨n2, 0, strs (splitS s), rfl, by omega, by simp [rowOf, hg6, Blk.row], by simpa using hu⟩) (by omega)) ?_
      rintro _ _ _ ⟨rfl, rfl, rfl⟩
      exact hj _ _ _ ⟨rfl, rfl, rfl⟩
    rintro _ _ _ ⟨rfl, rfl, rfl⟩
    by_cases hem : emp ∈ splitS s
    · have de : decide (0 ≤ idxOf (splitS s) emp) = true := by
        have : ¬ idxOf (splitS s) emp < 0 := fun h => idxOf_neg.1 h hem
        simp; omega
      simp (disch := first | omega | assumption | exact shr_lt (by assumption) | exact ndiff32 (by assumption) | exact below_lt (by omega) | fail) only [List.getD_cons_zero, List.getD_cons_succ, wBin_lss, wBin_leq, wBin_gtr, wBin_geq, wBin_eql, wBin_neq, wIf_bool, wGuard_true, wGuard_false, wPick_true, wPick_false, wUn_not, wFld_eq, wExt_eq, wPart_one, wPart_agg, wLen_slice, wLen_string, wNew_eq, wNm_eq, dBox_agg, dBox_int, dBox_slice, dBox_string, dBox_bool, dBox_map, dBox_ptr, oneCells, wLd_none, wLd_2, wLd_3, wLd_32, ldP_cells, ldP_rom, cellP_one, getH_same, getH_ne, forceV_eq, forceN_eq, hsK_eq, Option.elim_some, List.getElem?_cons_zero, List.getElem?_cons_succ, Yld.val, decide_true, decide_false, if_true, if_false, Bool.false_eq_true, Nat.zero_add, Nat.add_zero, and_true, true_and, or_false, Bool.not_true, Bool.not_false, and_self, wBin_add64, wBin_sub64, wIdx_slice, wIdx_array, wNilc_eq, Int.toNat_natCast, Nat.mul_one, Nat.zero_mul, wSt_agg, wSt_int, wSt_bool, wSt_string, wSt_slice, wSt_ptr, wSt_map, wSt_func, stP_cells, bit_one, bit_zero, bit_one', bit_zero', wBin_shr32, wBin_and1, wBin_rem2, wBin_andNot32, wBin_or32, wBin_and32, wBin_shl32, u32_eq_zero, u32_ne_zero, List.length_cons, List.length_nil, Nat.le_refl, Nat.reduceAdd, Nat.reduceMul, Nat.reduceLeDiff, Int.toNat_zero, Int.toNat_one, de, wBuild_0, hgn, putL_lit3, cellP_lit3]
      rw [parseOf_form h0 (.inr hem)]
      exact ⟨⟨_, _, rfl, VOK.nil _ _ _⟩, hE06.hs (Nat.le_refl _)⟩
    have de : decide (0 ≤ idxOf (splitS s) emp) = false := by
      have := idxOf_neg.2 hem
      simp; omega
    have hne : ¬ (idxOf wordL ((splitS s).headD emp) < 0 ∨ emp ∈ splitS s) := by
      rw [hk0]
      exact fun h => h.elim hk hem
    simp (disch := first | omega | assumption | exact shr_lt (by assumption) | exact ndiff32 (by assumption) | exact below_lt (by omega) | fail) only [List.getD_cons_zero, List.getD_cons_succ, wBin_lss, wBin_leq, wBin_gtr, wBin_geq, wBin_eql, wBin_neq, wIf_bool, wGuard_true, wGuard_false, wPick_true, wPick_false, wUn_not, wFld_eq, wExt_eq, wPart_one, wPart_agg, wLen_slice, wLen_string, wNew_eq, wNm_eq, dBox_agg, dBox_int, dBox_slice, dBox_string, dBox_bool, dBox_map, dBox_ptr, oneCells, wLd_none, wLd_2, wLd_3, wLd_32, ldP_cells, ldP_rom, cellP_one, getH_same, getH_ne, forceV_eq, forceN_eq, hsK_eq, Option.elim_some, List.getElem?_cons_zero, List.getElem?_cons_succ, Yld.val, decide_true, decide_false, if_true, if_false, Bool.false_eq_true, Nat.zero_add, Nat.add_zero, and_true, true_and, or_false, Bool.not_true, Bool.not_false, and_self, wBin_add64, wBin_sub64, wIdx_slice, wIdx_array, wNilc_eq, Int.toNat_natCast, Nat.mul_one, Nat.zero_mul, wSt_agg, wSt_int, wSt_bool, wSt_string, wSt_slice, wSt_ptr, wSt_map, wSt_func, stP_cells, bit_one, bit_zero, bit_one', bit_zero', wBin_shr32, wBin_and1, wBin_rem2, wBin_andNot32, wBin_or32, wBin_and32, wBin_shl32, u32_eq_zero, u32_ne_zero, List.length_cons, List.length_nil, Nat.le_refl, Nat.reduceAdd, Nat.reduceMul, Nat.reduceLeDiff, Int.toNat_zero, Int.toNat_one, de, dMmap_none, putL_lit1]
    refine wLoop_rule (fun m L H' nx' => ∃ i : Nat, m + i = vs.length ∧ L = [.int .i64 (i : Int)] ∧ getH H' N = some (.map (entL vs i) i) ∧ getH H' (N + 1) = some (.cells [.map (some N)] 0) ∧ Ext H6 N H' (N + 1 + 1) ∧ N + 1 + 1 = nx') ?_ (m := vs.length) ⟨0, by omega, rfl, ?_, getH_same _ _ _, ?_, rfl⟩
    rotate_left
    · rw [getH_ne _ (by omega), getH_ne _ (by omega), getH_same]; rfl
    · exact ((((Ext.refl H6 N).new _ (Nat.le_refl _) (by omega)).new _ (by omega) (Nat.le_succ _)).new _ (by omega) (Nat.le_refl _))
    rintro m ih L H14 _ ⟨i, hm, rfl, hmap, hbox, hE14, rfl⟩ hih
    have hE014 := hE06.trans hE14
    simp (disch := first | omega | assumption | exact shr_lt (by assumption) | exact ndiff32 (by assumption) | exact below_lt (by omega) | fail) only [List.getD_cons_zero, List.getD_cons_succ, wBin_lss, wBin_leq, wBin_gtr, wBin_geq, wBin_eql, wBin_neq, wIf_bool, wGuard_true, wGuard_false, wPick_true, wPick_false, wUn_not, wFld_eq, wExt_eq, wPart_one, wPart_agg, wLen_slice, wLen_string, wNew_eq, wNm_eq, dBox_agg, dBox_int, dBox_slice, dBox_string, dBox_bool, dBox_map, dBox_ptr, oneCells, wLd_none, wLd_2, wLd_3, wLd_32, ldP_cells, ldP_rom, cellP_one, getH_same, getH_ne, forceV_eq, forceN_eq, hsK_eq, Option.elim_some, List.getElem?_cons_zero, List.getElem?_cons_succ, Yld.val, decide_true, decide_false, if_true, if_false, Bool.false_eq_true, Nat.zero_add, Nat.add_zero, and_true, true_and, or_false, Bool.not_true, Bool.not_false, and_self, wBin_add64, wBin_sub64, wIdx_slice, wIdx_array, wNilc_eq, Int.toNat_natCast, Nat.mul_one, Nat.zero_mul, wSt_agg, wSt_int, wSt_bool, wSt_string, wSt_slice, wSt_ptr, wSt_map, wSt_func, stP_cells, bit_one, bit_zero, bit_one', bit_zero', wBin_shr32, wBin_and1, wBin_rem2, wBin_andNot32, wBin_or32, wBin_and32, wBin_shl32, u32_eq_zero, u32_ne_zero, List.length_cons, List.length_nil, Nat.le_refl, Nat.reduceAdd, Nat.reduceMul, Nat.reduceLeDiff, Int.toNat_zero, Int.toNat_one]
    by_cases hi : i < vs.length
    · have hi' : (i : Int) < (vs.length : Int) := by omega
      obtain ⟨b, o, row, rfl, hb, hrow, hget⟩ := (hS.ext hE014).open (i := i) (by rw [strs_length]; exact hi)
      have hv0 : vs[i]? = some vs[i] := List.getElem?_eq_getElem hi
      generalize hz : vs[i] = z at hv0
      have hf : Instr.findNow .string (.string z) (entL vs i) 0 = some none := by
        rcases find_ent vs i z with ⟨h1, _⟩ | ⟨j, hj, _, h2⟩
        · exact h1
        · exfalso
          have hjl : j < vs.length := by omega
          have := List.pairwise_iff_getElem.1 hnd j i hjl hi hj
          apply this
          have a2 : vs[j]? = some vs[j] := List.getElem?_eq_getElem hjl
          rw [getD_some hjl, h2] at a2
          injection a2 with a2
          rw [hz, ← a2]
      simp (disch := first | omega | assumption | exact shr_lt (by assumption) | exact ndiff32 (by assumption) | exact below_lt (by omega) | fail) only [List.getD_cons_zero, List.getD_cons_succ, wBin_lss, wBin_leq, wBin_gtr, wBin_geq, wBin_eql, wBin_neq, wIf_bool, wGuard_true, wGuard_false, wPick_true, wPick_false, wUn_not, wFld_eq, wExt_eq, wPart_one, wPart_agg, wLen_slice, wLen_string, wNew_eq, wNm_eq, dBox_agg, dBox_int, dBox_slice, dBox_string, dBox_bool, dBox_map, dBox_ptr, oneCells, wLd_none, wLd_2, wLd_3, wLd_32, ldP_cells, ldP_rom, cellP_one, getH_same, getH_ne, forceV_eq, forceN_eq, hsK_eq, Option.elim_some, List.getElem?_cons_zero, List.getElem?_cons_succ, Yld.val, decide_true, decide_false, if_true, if_false, Bool.false_eq_true, Nat.zero_add, Nat.add_zero, and_true, true_and, or_false, Bool.not_true, Bool.not_false, and_self, wBin_add64, wBin_sub64, wIdx_slice, wIdx_array, wNilc_eq, Int.toNat_natCast, Nat.mul_one, Nat.zero_mul, wSt_agg, wSt_int, wSt_bool, wSt_string, wSt_slice, wSt_ptr, wSt_map, wSt_func, stP_cells, bit_one, bit_zero, bit_one', bit_zero', wBin_shr32, wBin_and1, wBin_rem2, wBin_andNot32, wBin_or32, wBin_and32, wBin_shl32, u32_eq_zero, u32_ne_zero, List.length_cons, List.length_nil, Nat.le_refl, Nat.reduceAdd, Nat.reduceMul, Nat.reduceLeDiff, Int.toNat_zero, Int.toNat_one, hi', ldP_row hrow, hget _ _ (strs_get hv0), hbox, wUpd_new hmap hf]
      exact hih (m - 1) _ _ _ (by omega) ⟨i + 1, by omega, by simp, by rw [getH_same, ent_succ hv0], by rw [getH_ne _ (by omega)]; exact hbox, hE14.hs (Nat.le_refl _), rfl⟩
    have hi' : ¬ (i : Int) < (vs.length : Int) := by omega
    have hil : i = vs.length := by omega
    subst hil
    have hX16 : Ext H14 (N + 1 + 1) (Go.Clo.hs H14 (N + 1 + 1) (some (.cells [] 0))) (N + 1 + 1 + 1) := (Ext.refl _ _).new _ (Nat.le_refl _) (by omega)
    have hg16 : getH (Go.Clo.hs H14 (N + 1 + 1) (some (.cells [] 0))) n2 = some (.cells (strs (splitS s)) 0) := by rw [hX16.get n2 (by omega), hE14.get n2 (by omega)]; exact hg6
    have hone : 1 ≤ (splitS s).length := by omega
    have hgl : getH (Go.Clo.hs H14 (N + 1 + 1) (some (.cells [] 0))) (N + 1 + 1) = some (.cells [] 0) := getH_same _ _ _
    simp (disch := first | omega | assumption | exact shr_lt (by assumption) | exact ndiff32 (by assumption) | exact below_lt (by omega) | fail) only [List.getD_cons_zero, List.getD_cons_succ, wBin_lss, wBin_leq, wBin_gtr, wBin_geq, wBin_eql, wBin_neq, wIf_bool, wGuard_true, wGuard_false, wPick_true, wPick_false, wUn_not, wFld_eq, wExt_eq, wPart_one, wPart_agg, wLen_slice, wLen_string, wNew_eq, wNm_eq, dBox_agg, dBox_int, dBox_slice, dBox_string, dBox_bool, dBox_map, dBox_ptr, oneCells, wLd_none, wLd_2, wLd_3, wLd_32, ldP_cells, ldP_rom, cellP_one, getH_same, getH_ne, forceV_eq, forceN_eq, hsK_eq, Option.elim_some, List.getElem?_cons_zero, List.getElem?_cons_succ, Yld.val, decide_true, decide_false, if_true, if_false, Bool.false_eq_true, Nat.zero_add, Nat.add_zero, and_true, true_and, or_false, Bool.not_true, Bool.not_false, and_self, wBin_add64, wBin_sub64, wIdx_slice, wIdx_array, wNilc_eq, Int.toNat_natCast, Nat.mul_one, Nat.zero_mul, wSt_agg, wSt_int, wSt_bool, wSt_string, wSt_slice, wSt_ptr, wSt_map, wSt_func, stP_cells, bit_one, bit_zero, bit_one', bit_zero', wBin_shr32, wBin_and1, wBin_rem2, wBin_andNot32, wBin_or32, wBin_and32, wBin_shl32, u32_eq_zero, u32_ne_zero, List.length_cons, List.length_nil, Nat.le_refl, Nat.reduceAdd, Nat.reduceMul, Nat.reduceLeDiff, Int.toNat_zero, Int.toNat_one, hi', dBsl_none, wSl_one hg16 hone]
    have hg14 : getH H14 n2 = some (.cells (strs (splitS s)) 0) := by rw [hE14.get n2 (by omega)]; exact hg6
    have hT : Sl H14 (N + 1 + 1) (some ⟨n2, if (splitS s).length = 1 then 0 else 1, none⟩) (strs tl) := fun j u hu => by
      have hjl : j < tl.length := by
        have := (List.getElem?_eq_some_iff.1 hu).1
        rwa [strs_length] at this
      refine ⟨n2, 1, strs (splitS s), by rw [if_neg (by omega)], by omega, by simp [rowOf, hg14, Blk.row], ?_⟩
      rw [hp, Nat.add_comm]
      simpa [strs] using hu
    rw [hltl] at hT ⊢
    simp only [Nat.add_sub_cancel]
    generalize (some (Addr.mk n2 (if tl.length + 1 = 1 then 0 else 1) none)) = B2 at hT ⊢
    generalize Go.Clo.hs H14 (N + 1 + 1) (some (.cells [] 0)) = H16 at hX16 hg16 hgl ⊢
    refine wLoop_rule (fun m L H' nx' => ∃ (k : Nat) (v : Value) (zs : List Int), m + k = tl.length ∧ L = [v, .int .i64 (k : Int)] ∧ idxs vs (tl.take k) = some zs ∧ AccL (N + 1 + 1) H' nx' v (i64s zs) ∧ Ext H14 (N + 1 + 1) H' nx') ?_ (m := tl.length) ⟨0, _, [], by omega, rfl, rfl, .inr ⟨rfl, N + 1 + 1, Nat.le_refl _, by omega, rfl, hgl⟩, hX16⟩
    rintro m2 ih2 L2 H17 n17 ⟨k, v, zs, hm2, rfl, hzs, hacc, hE17⟩ hih2
    have hgn17 : getH H17 nx = some (.cells [.int .i64 0, .slice none 0 0, .slice none 0 0] 0) := by rw [hE17.get nx (by omega), hE14.get nx (by omega)]; exact hgn
    have hE017 := hE014.trans hE17
    simp (disch := first | omega | assumption | exact shr_lt (by assumption) | exact ndiff32 (by assumption) | exact below_lt (by omega) | fail) only [List.getD_cons_zero, List.getD_cons_succ, wBin_lss, wBin_leq, wBin_gtr, wBin_geq, wBin_eql, wBin_neq, wIf_bool, wGuard_true, wGuard_false, wPick_true, wPick_false, wUn_not, wFld_eq, wExt_eq, wPart_one, wPart_agg, wLen_slice, wLen_string, wNew_eq, wNm_eq, dBox_agg, dBox_int, dBox_slice, dBox_string, dBox_bool, dBox_map, dBox_ptr, oneCells, wLd_none, wLd_2, wLd_3, wLd_32, ldP_cells, ldP_rom, cellP_one, getH_same, getH_ne, forceV_eq, forceN_eq, hsK_eq, Option.elim_some, List.getElem?_cons_zero, List.getElem?_cons_succ, Yld.val, decide_true, decide_false, if_true, if_false, Bool.false_eq_true, Nat.zero_add, Nat.add_zero, and_true, true_and, or_false, Bool.not_true, Bool.not_false, and_self, wBin_add64, wBin_sub64, wIdx_slice, wIdx_array, wNilc_eq, Int.toNat_natCast, Nat.mul_one, Nat.zero_mul, wSt_agg, wSt_int, wSt_bool, wSt_string, wSt_slice, wSt_ptr, wSt_map, wSt_func, stP_cells, bit_one, bit_zero, bit_one', bit_zero', wBin_shr32, wBin_and1, wBin_rem2, wBin_andNot32, wBin_or32, wBin_and32, wBin_shl32, u32_eq_zero, u32_ne_zero, List.length_cons, List.length_nil, Nat.le_refl, Nat.reduceAdd, Nat.reduceMul, Nat.reduceLeDiff, Int.toNat_zero, Int.toNat_one]
    by_cases hk2 : k < tl.length
    · have hk2' : (k : Int) < (tl.length : Int) := by omega
      have hx : tl[k]? = some tl[k] := List.getElem?_eq_getElem hk2
      generalize tl[k] = x at hx
      have hmem : x ∈ tl := List.mem_of_getElem? hx
      obtain ⟨b, o, row, rfl, hb, hrow, hget⟩ := (hT.ext hE17).open (i := k) (by rw [strs_length]; exact hk2)
      simp (disch := first | omega | assumption | exact shr_lt (by assumption) | exact ndiff32 (by assumption) | exact below_lt (by omega) | fail) only [List.getD_cons_zero, List.getD_cons_succ, wBin_lss, wBin_leq, wBin_gtr, wBin_geq, wBin_eql, wBin_neq, wIf_bool, wGuard_true, wGuard_false, wPick_true, wPick_false, wUn_not, wFld_eq, wExt_eq, wPart_one, wPart_agg, wLen_slice, wLen_string, wNew_eq, wNm_eq, dBox_agg, dBox_int, dBox_slice, dBox_string, dBox_bool, dBox_map, dBox_ptr, oneCells, wLd_none, wLd_2, wLd_3, wLd_32, ldP_cells, ldP_rom, cellP_one, getH_same, getH_ne, forceV_eq, forceN_eq, hsK_eq, Option.elim_some, List.getElem?_cons_zero, List.getElem?_cons_succ, Yld.val, decide_true, decide_false, if_true, if_false, Bool.false_eq_true, Nat.zero_add, Nat.add_zero, and_true, true_and, or_false, Bool.not_true, Bool.not_false, and_self, wBin_add64, wBin_sub64, wIdx_slice, wIdx_array, wNilc_eq, Int.toNat_natCast, Nat.mul_one, Nat.zero_mul, wSt_agg, wSt_int, wSt_bool, wSt_string, wSt_slice, wSt_ptr, wSt_map, wSt_func, stP_cells, bit_one, bit_zero, bit_one', bit_zero', wBin_shr32, wBin_and1, wBin_rem2, wBin_andNot32, wBin_or32, wBin_and32, wBin_shl32, u32_eq_zero, u32_ne_zero, List.length_cons, List.length_nil, Nat.le_refl, Nat.reduceAdd, Nat.reduceMul, Nat.reduceLeDiff, Int.toNat_zero, Int.toNat_one, hk2', ldP_row hrow, hget _ _ (strs_get hx)]
      refine wCallV_rule (first := []) (cap := [.pointer (some ⟨N + 1, 0, none⟩)]) (lookup24 (N + 1) N vs.length x vs H17 n17 hnd (by rw [hE17.get _ (by omega)]; exact hbox) (by rw [hE17.get _ (by omega)]; exact hmap)) ?_
      rintro r _ _ ⟨hlo, hhi, rfl, rfl⟩
      by_cases hlt : idxOf vs x < 0
      · have := hlo hlt
        subst this
        simp (disch := first | omega | assumption | exact shr_lt (by assumption) | exact ndiff32 (by assumption) | exact below_lt (by omega) | fail) only [List.getD_cons_zero, List.getD_cons_succ, wBin_lss, wBin_leq, wBin_gtr, wBin_geq, wBin_eql, wBin_neq, wIf_bool, wGuard_true, wGuard_false, wPick_true, wPick_false, wUn_not, wFld_eq, wExt_eq, wPart_one, wPart_agg, wLen_slice, wLen_string, wNew_eq, wNm_eq, dBox_agg, dBox_int, dBox_slice, dBox_string, dBox_bool, dBox_map, dBox_ptr, oneCells, wLd_none, wLd_2, wLd_3, wLd_32, ldP_cells, ldP_rom, cellP_one, getH_same, getH_ne, forceV_eq, forceN_eq, hsK_eq, Option.elim_some, List.getElem?_cons_zero, List.getElem?_cons_succ, Yld.val, decide_true, decide_false, if_true, if_false, Bool.false_eq_true, Nat.zero_add, Nat.add_zero, and_true, true_and, or_false, Bool.not_true, Bool.not_false, and_self, wBin_add64, wBin_sub64, wIdx_slice, wIdx_array, wNilc_eq, Int.toNat_natCast, Nat.mul_one, Nat.zero_mul, wSt_agg, wSt_int, wSt_bool, wSt_string, wSt_slice, wSt_ptr, wSt_map, wSt_func, stP_cells, bit_one, bit_zero, bit_one', bit_zero', wBin_shr32, wBin_and1, wBin_rem2, wBin_andNot32, wBin_or32, wBin_and32, wBin_shl32, u32_eq_zero, u32_ne_zero, List.length_cons, List.length_nil, Nat.le_refl, Nat.reduceAdd, Nat.reduceMul, Nat.reduceLeDiff, Int.toNat_zero, Int.toNat_one, wBuild_0, hgn17, putL_lit3, cellP_lit3]
        rw [parseOf_none h0 hne (by rw [htl]; exact idxs_bad hlt hmem)]
        exact ⟨⟨_, _, rfl, VOK.nil _ _ _⟩, hE017.hs (Nat.le_refl _)⟩
      · have := hhi (by omega)
        subst this
        simp (disch := first | omega | assumption | exact shr_lt (by assumption) | exact ndiff32 (by assumption) | exact below_lt (by omega) | fail) only [List.getD_cons_zero, List.getD_cons_succ, wBin_lss, wBin_leq, wBin_gtr, wBin_geq, wBin_eql, wBin_neq, wIf_bool, wGuard_true, wGuard_false, wPick_true, wPick_false, wUn_not, wFld_eq, wExt_eq, wPart_one, wPart_agg, wLen_slice, wLen_string, wNew_eq, wNm_eq, dBox_agg, dBox_int, dBox_slice, dBox_string, dBox_bool, dBox_map, dBox_ptr, oneCells, wLd_none, wLd_2, wLd_3, wLd_32, ldP_cells, ldP_rom, cellP_one, getH_same, getH_ne, forceV_eq, forceN_eq, hsK_eq, Option.elim_some, List.getElem?_cons_zero, List.getElem?_cons_succ, Yld.val, decide_true, decide_false, if_true, if_false, Bool.false_eq_true, Nat.zero_add, Nat.add_zero, and_true, true_and, or_false, Bool.not_true, Bool.not_false, and_self, wBin_add64, wBin_sub64, wIdx_slice, wIdx_array, wNilc_eq, Int.toNat_natCast, Nat.mul_one, Nat.zero_mul, wSt_agg, wSt_int, wSt_bool, wSt_string, wSt_slice, wSt_ptr, wSt_map, wSt_func, stP_cells, bit_one, bit_zero, bit_one', bit_zero', wBin_shr32, wBin_and1, wBin_rem2, wBin_andNot32, wBin_or32, wBin_and32, wBin_shl32, u32_eq_zero, u32_ne_zero, List.length_cons, List.length_nil, Nat.le_refl, Nat.reduceAdd, Nat.reduceMul, Nat.reduceLeDiff, Int.toNat_zero, Int.toNat_one, dBsl_i64]
        have hXn : Ext H17 n17 (Go.Clo.hs H17 n17 (some (.cells [.int .i64 (idxOf vs x)] 0))) (n17 + 1) := (Ext.refl _ _).new _ (Nat.le_refl _) (by omega)
        refine wApp_accL (hacc.ext hXn) (src_new (getH_same _ _ _) rfl (by omega)) rfl (by omega) (by rw [i64s_length, idxs_length hzs, List.length_take]; omega) (hE17.trans hXn) (by have := hE17.le; omega) ?_
        intro v' H' hacc' hE' hsame
        refine hih2 (m2 - 1) _ _ _ (by omega) ⟨k + 1, v', zs ++ [idxOf vs x], by omega, by simp, ?_, by simpa [i64s] using hacc', hE'⟩
        rw [List.take_add_one, hx]
        exact idxs_snoc hlt hzs
    have hk2' : ¬ (k : Int) < (tl.length : Int) := by omega
    rw [List.take_of_length_le (by omega)] at hzs
    obtain ⟨B, rfl, _, _⟩ := hacc.sl
    by_cases hz : idxOf wordL p0 = 0
    · have dz : decide (idxOf wordL p0 = 0) = true := by simp [hz]
      simp (disch := first | omega | assumption | exact shr_lt (by assumption) | exact ndiff32 (by assumption) | exact below_lt (by omega) | fail) only [List.getD_cons_zero, List.getD_cons_succ, wBin_lss, wBin_leq, wBin_gtr, wBin_geq, wBin_eql, wBin_neq, wIf_bool, wGuard_true, wGuard_false, wPick_true, wPick_false, wUn_not, wFld_eq, wExt_eq, wPart_one, wPart_agg, wLen_slice, wLen_string, wNew_eq, wNm_eq, dBox_agg, dBox_int, dBox_slice, dBox_string, dBox_bool, dBox_map, dBox_ptr, oneCells, wLd_none, wLd_2, wLd_3, wLd_32, ldP_cells, ldP_rom, cellP_one, getH_same, getH_ne, forceV_eq, forceN_eq, hsK_eq, Option.elim_some, List.getElem?_cons_zero, List.getElem?_cons_succ, Yld.val, decide_true, decide_false, if_true, if_false, Bool.false_eq_true, Nat.zero_add, Nat.add_zero, and_true, true_and, or_false, Bool.not_true, Bool.not_false, and_self, wBin_add64, wBin_sub64, wIdx_slice, wIdx_array, wNilc_eq, Int.toNat_natCast, Nat.mul_one, Nat.zero_mul, wSt_agg, wSt_int, wSt_bool, wSt_string, wSt_slice, wSt_ptr, wSt_map, wSt_func, stP_cells, bit_one, bit_zero, bit_one', bit_zero', wBin_shr32, wBin_and1, wBin_rem2, wBin_andNot32, wBin_or32, wBin_and32, wBin_shl32, u32_eq_zero, u32_ne_zero, List.length_cons, List.length_nil, Nat.le_refl, Nat.reduceAdd, Nat.reduceMul, Nat.reduceLeDiff, Int.toNat_zero, Int.toNat_one, hk2', dz, wBuild_1, hgn17, putL_lit3, cellP_lit3]
      rw [parseOf_some h0 hne (by rw [htl]; exact hzs), hk0]
      exact ⟨⟨_, _, rfl, fun _ => ⟨(hacc.put (by omega) _).low (by omega), rfl⟩, fun h => absurd hz h⟩, hE017.hs (Nat.le_refl _)⟩
    · have dz : decide (idxOf wordL p0 = 0) = false := by simp [hz]
      simp (disch := first | omega | assumption | exact shr_lt (by assumption) | exact ndiff32 (by assumption) | exact below_lt (by omega) | fail) only [List.getD_cons_zero, List.getD_cons_succ, wBin_lss, wBin_leq, wBin_gtr, wBin_geq, wBin_eql, wBin_neq, wIf_bool, wGuard_true, wGuard_false, wPick_true, wPick_false, wUn_not, wFld_eq, wExt_eq, wPart_one, wPart_agg, wLen_slice, wLen_string, wNew_eq, wNm_eq, dBox_agg, dBox_int, dBox_slice, dBox_string, dBox_bool, dBox_map, dBox_ptr, oneCells, wLd_none, wLd_2, wLd_3, wLd_32, ldP_cells, ldP_rom, cellP_one, getH_same, getH_ne, forceV_eq, forceN_eq, hsK_eq, Option.elim_some, List.getElem?_cons_zero, List.getElem?_cons_succ, Yld.val, decide_true, decide_false, if_true, if_false, Bool.false_eq_true, Nat.zero_add, Nat.add_zero, and_true, true_and, or_false, Bool.not_true, Bool.not_false, and_self, wBin_add64, wBin_sub64, wIdx_slice, wIdx_array, wNilc_eq, Int.toNat_natCast, Nat.mul_one, Nat.zero_mul, wSt_agg, wSt_int, wSt_bool, wSt_string, wSt_slice, wSt_ptr, wSt_map, wSt_func, stP_cells, bit_one, bit_zero, bit_one', bit_zero', wBin_shr32, wBin_and1, wBin_rem2, wBin_andNot32, wBin_or32, wBin_and32, wBin_shl32, u32_eq_zero, u32_ne_zero, List.length_cons, List.length_nil, Nat.le_refl, Nat.reduceAdd, Nat.reduceMul, Nat.reduceLeDiff, Int.toNat_zero, Int.toNat_one, hk2', dz, wBuild_2, hgn17, putL_lit3, cellP_lit3]
      rw [parseOf_some h0 hne (by rw [htl]; exact hzs), hk0]
      exact ⟨⟨_, _, rfl, fun h => absurd h hz, fun _ => ⟨(hacc.put (by omega) _).low (by omega), rfl⟩⟩, hE017.hs (Nat.le_refl _)⟩
  · have d : decide (codeOf vs ≠ 0) = true := by simp [h0]
    simp (disch := first | omega | assumption | exact shr_lt (by assumption) | exact ndiff32 (by assumption) | exact below_lt (by omega) | fail) only [List.getD_cons_zero, List.getD_cons_succ, wBin_lss, wBin_leq, wBin_gtr, wBin_geq, wBin_eql, wBin_neq, wIf_bool, wGuard_true, wGuard_false, wPick_true, wPick_false, wUn_not, wFld_eq, wExt_eq, wPart_one, wPart_agg, wLen_slice, wLen_string, wNew_eq, wNm_eq, dBox_agg, dBox_int, dBox_slice, dBox_string, dBox_bool, dBox_map, dBox_ptr, oneCells, wLd_none, wLd_2, wLd_3, wLd_32, ldP_cells, ldP_rom, cellP_one, getH_same, getH_ne, forceV_eq, forceN_eq, hsK_eq, Option.elim_some, List.getElem?_cons_zero, List.getElem?_cons_succ, Yld.val, decide_true, decide_false, if_true, if_false, Bool.false_eq_true, Nat.zero_add, Nat.add_zero, and_true, true_and, or_false, Bool.not_true, Bool.not_false, and_self, wBin_add64, wBin_sub64, wIdx_slice, wIdx_array, wNilc_eq, Int.toNat_natCast, Nat.mul_one, Nat.zero_mul, wSt_agg, wSt_int, wSt_bool, wSt_string, wSt_slice, wSt_ptr, wSt_map, wSt_func, stP_cells, bit_one, bit_zero, bit_one', bit_zero', wBin_shr32, wBin_and1, wBin_rem2, wBin_andNot32, wBin_or32, wBin_and32, wBin_shl32, u32_eq_zero, u32_ne_zero, List.length_cons, List.length_nil, Nat.le_refl, Nat.reduceAdd, Nat.reduceMul, Nat.reduceLeDiff, Int.toNat_zero, Int.toNat_one, d, wBuild_0, hg2, putL_lit3, cellP_lit3]
    rw [parseOf_code h0]
    exact ⟨⟨_, _, rfl, VOK.nil _ _ _⟩, hE02.hs (Nat.le_refl _)⟩
end Go.Proofs.YtjpgddpobnjmkaaDoor
