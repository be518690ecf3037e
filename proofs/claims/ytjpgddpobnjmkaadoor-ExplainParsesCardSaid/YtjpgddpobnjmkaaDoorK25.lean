/-
  The example of the chapter (awake); the laws ExplainVerdicts, ExplainParses, ExplainBack return true.
-/
import Derived.Test.YtjpgddpobnjmkaaDoorK24
set_option linter.unusedSimpArgs false
set_option linter.unusedVariables false
set_option linter.unusedSectionVars false
namespace Go.Proofs.YtjpgddpobnjmkaaDoor
open Go.Clo

def xyz : List ByteArray := [⟨#[120]⟩, ⟨#[121]⟩, ⟨#[122]⟩]
theorem valid_one {c : UInt8} (h : letterB c = true) : validB ⟨#[c]⟩ = true := by
  have hn : NameOK (strip ⟨#[c]⟩) := by
    rw [strip_short (by show ¬ 2 < 1; omega)]
    refine ⟨by show 1 ≤ 1; omega, by show 1 ≤ 16; omega, fun i d hd => ?_⟩
    rw [byte_list] at hd
    match i, hd with
    | 0, hd => cases hd; exact .inl h
    | i + 1, hd => simp at hd
  unfold validB
  simpa using hn
theorem xyz_code : codeOf xyz = 0 := code_of (fun s hs => by
  simp only [xyz, List.mem_cons, List.not_mem_nil, or_false] at hs
  rcases hs with rfl | rfl | rfl <;> exact valid_one (by decide)) (by decide)
theorem xyz_short : Short xyz := fun s hs => by
  simp only [xyz, List.mem_cons, List.not_mem_nil, or_false] at hs
  rcases hs with rfl | rfl | rfl <;> decide
theorem text_bytes {w t : ByteArray} {zs : List ByteArray} (h : t.data.toList = w.data.toList ++ Lib.joinTail [32] (zs.map (·.data.toList))) : w ++ catS zs = t := by
  apply bytes_eq
  rw [ByteArray.toList_eq, ByteArray.toList_eq, ByteArray.data_append, Array.toList_append, catS_data, h]
theorem awake_a : textOf xyz 3 [0, 1, 2] = (⟨#[116, 114, 105, 111, 32, 120, 32, 121, 32, 122]⟩, 0) := by
  rw [textOf_some xyz_code (by omega) (zs := xyz) rfl]
  rw [text_bytes]; rfl
theorem awake_b : textOf xyz 0 [] = (⟨#[97, 99, 99, 101, 112, 116, 101, 100]⟩, 0) := by
  rw [textOf_some xyz_code (by omega) (zs := []) rfl]
  rw [text_bytes]; rfl
theorem awake_t : textOf xyz 2 [2, 0] = (⟨#[112, 97, 116, 104, 32, 122, 32, 120]⟩, 0) := by
  rw [textOf_some xyz_code (by omega) (zs := [⟨#[122]⟩, ⟨#[120]⟩]) rfl]
  rw [text_bytes]; rfl
theorem awake_c : parseOf xyz ⟨#[112, 97, 116, 104, 32, 122, 32, 120]⟩ = (2, [2, 0], 0) := by
  have := (parse_text (vs := xyz) (kind := 2) (l := [2, 0]) (by rw [awake_t])).1
  rwa [awake_t] at this
theorem dBsl_str3 (a b c z : ByteArray) (k : List Value → Prop) : dBsl 3 1 [.string z] [(0, .string a), (1, .string b), (2, .string c)] k = k (strs [a, b, c]) := by
  rw [dBsl_eq]
  show (if oneCells (strs [a, b, c]) = true then k (strs [a, b, c]) else False) = _
  exact if_pos (show oneCells (strs [a, b, c]) = true from rfl)
theorem dBsl_int3 (a b c z : Int) (k : List Value → Prop) : dBsl 3 1 [.int .i64 z] [(0, .int .i64 a), (1, .int .i64 b), (2, .int .i64 c)] k = k (i64s [a, b, c]) := by
  rw [dBsl_eq]
  show (if oneCells (i64s [a, b, c]) = true then k (i64s [a, b, c]) else False) = _
  exact if_pos (show oneCells (i64s [a, b, c]) = true from rfl)
theorem dBsl_int2 (a b z : Int) (k : List Value → Prop) : dBsl 2 1 [.int .i64 z] [(0, .int .i64 a), (1, .int .i64 b)] k = k (i64s [a, b]) := by
  rw [dBsl_eq]
  show (if oneCells (i64s [a, b]) = true then k (i64s [a, b]) else False) = _
  exact if_pos (show oneCells (i64s [a, b]) = true from rfl)
theorem sl_new {H : Heap} {nx b sl : Nat} {c : List Value} (hb : b < nx) (hg : getH H b = some (.cells c sl)) : Sl H nx (some ⟨b, 0, none⟩) c := fun i u hu => ⟨b, 0, c, rfl, hb, by simp [rowOf, hg, Blk.row], by simpa using hu⟩
theorem has_new {H : Heap} {nx b sl : Nat} {c : List Value} (hb : b < nx) (hg : getH H b = some (.cells c sl)) : Has H nx (some ⟨b, 0, none⟩) := .inr ⟨b, 0, c, rfl, hb, by simp [rowOf, hg, Blk.row]⟩

set_option maxHeartbeats 4000000 in
theorem awake7 (H : Heap) (nx : Nat) : Ans Tryd.prog 7 [] H nx fun r H' nx' => .bool true = r ∧ Ext H nx H' nx' := by
  refine spec7 ?_
  unfold F7
  have hE2 : Ext H nx (Go.Clo.hs (Go.Clo.hs H nx (some (.cells (strs xyz) 0))) (nx + 1) (some (.cells (i64s [0, 1, 2]) 0))) (nx + 1 + 1) := ((Ext.refl H nx).new _ (Nat.le_refl _) (Nat.le_succ _)).new _ (by omega) (by omega)
  have hgs : getH (Go.Clo.hs (Go.Clo.hs H nx (some (.cells (strs xyz) 0))) (nx + 1) (some (.cells (i64s [0, 1, 2]) 0))) nx = some (.cells (strs xyz) 0) := by rw [getH_ne _ (by omega), getH_same]
  have hgi : getH (Go.Clo.hs (Go.Clo.hs H nx (some (.cells (strs xyz) 0))) (nx + 1) (some (.cells (i64s [0, 1, 2]) 0))) (nx + 1) = some (.cells (i64s [0, 1, 2]) 0) := getH_same _ _ _
  have ex : strs [⟨#[120]⟩, ⟨#[121]⟩, ⟨#[122]⟩] = strs xyz := rfl
  simp (disch := first | omega | assumption | exact shr_lt (by assumption) | exact ndiff32 (by assumption) | exact below_lt (by omega) | fail) only [List.getD_cons_zero, List.getD_cons_succ, wBin_lss, wBin_leq, wBin_gtr, wBin_geq, wBin_eql, wBin_neq, wIf_bool, wGuard_true, wGuard_false, wPick_true, wPick_false, wUn_not, wFld_eq, wExt_eq, wPart_one, wPart_agg, wLen_slice, wLen_string, wNew_eq, wNm_eq, dBox_agg, dBox_int, dBox_slice, dBox_string, dBox_bool, dBox_map, dBox_ptr, oneCells, wLd_none, wLd_2, wLd_3, wLd_32, ldP_cells, ldP_rom, cellP_one, getH_same, getH_ne, forceV_eq, forceN_eq, hsK_eq, Option.elim_some, List.getElem?_cons_zero, List.getElem?_cons_succ, Yld.val, decide_true, decide_false, if_true, if_false, Bool.false_eq_true, Nat.zero_add, Nat.add_zero, and_true, true_and, or_false, Bool.not_true, Bool.not_false, and_self, wBin_add64, wBin_sub64, wIdx_slice, wIdx_array, wNilc_eq, Int.toNat_natCast, Nat.mul_one, Nat.zero_mul, wSt_agg, wSt_int, wSt_bool, wSt_string, wSt_slice, wSt_ptr, wSt_map, wSt_func, stP_cells, bit_one, bit_zero, bit_one', bit_zero', wBin_shr32, wBin_and1, wBin_rem2, wBin_andNot32, wBin_or32, wBin_and32, wBin_shl32, u32_eq_zero, u32_ne_zero, List.length_cons, List.length_nil, Nat.le_refl, Nat.reduceAdd, Nat.reduceMul, Nat.reduceLeDiff, Int.toNat_zero, Int.toNat_one, dBsl_str3, dBsl_int3, wBuild_2, ex]
  generalize Go.Clo.hs (Go.Clo.hs H nx (some (.cells (strs xyz) 0))) (nx + 1) (some (.cells (i64s [0, 1, 2]) 0)) = H2 at hE2 hgs hgi ⊢
  refine wCall_rule (verdict8 (some ⟨nx, 0, none⟩) none (some ⟨nx + 1, 0, none⟩) xyz 3 [] [0, 1, 2] 3 0 3 H2 (nx + 1 + 1) (sl_new (by omega) hgs) (has_new (by omega) hgs) (fun h => by cases h) xyz_short (by decide) (Sl.nil _ _ _) (sl_new (by omega) hgi) (by decide) (by decide)) ?_
  rintro _ H3 n3 ⟨rfl, hE3⟩
  rw [if_neg (by decide), awake_a]
  have hn3 := hE3.le
  have hgs3 : getH H3 nx = some (.cells (strs xyz) 0) := by rw [hE3.get nx (by omega)]; exact hgs
  simp (disch := first | omega | assumption | exact shr_lt (by assumption) | exact ndiff32 (by assumption) | exact below_lt (by omega) | fail) only [List.getD_cons_zero, List.getD_cons_succ, wBin_lss, wBin_leq, wBin_gtr, wBin_geq, wBin_eql, wBin_neq, wIf_bool, wGuard_true, wGuard_false, wPick_true, wPick_false, wUn_not, wFld_eq, wExt_eq, wPart_one, wPart_agg, wLen_slice, wLen_string, wNew_eq, wNm_eq, dBox_agg, dBox_int, dBox_slice, dBox_string, dBox_bool, dBox_map, dBox_ptr, oneCells, wLd_none, wLd_2, wLd_3, wLd_32, ldP_cells, ldP_rom, cellP_one, getH_same, getH_ne, forceV_eq, forceN_eq, hsK_eq, Option.elim_some, List.getElem?_cons_zero, List.getElem?_cons_succ, Yld.val, decide_true, decide_false, if_true, if_false, Bool.false_eq_true, Nat.zero_add, Nat.add_zero, and_true, true_and, or_false, Bool.not_true, Bool.not_false, and_self, wBin_add64, wBin_sub64, wIdx_slice, wIdx_array, wNilc_eq, Int.toNat_natCast, Nat.mul_one, Nat.zero_mul, wSt_agg, wSt_int, wSt_bool, wSt_string, wSt_slice, wSt_ptr, wSt_map, wSt_func, stP_cells, bit_one, bit_zero, bit_one', bit_zero', wBin_shr32, wBin_and1, wBin_rem2, wBin_andNot32, wBin_or32, wBin_and32, wBin_shl32, u32_eq_zero, u32_ne_zero, List.length_cons, List.length_nil, Nat.le_refl, Nat.reduceAdd, Nat.reduceMul, Nat.reduceLeDiff, Int.toNat_zero, Int.toNat_one, tval, wBuild_0]
  refine wCall_rule (verdict8 (some ⟨nx, 0, none⟩) none none xyz 0 [] [] 3 0 0 H3 n3 (sl_new (by omega) hgs3) (has_new (by omega) hgs3) (fun h => by cases h) xyz_short (by decide) (Sl.nil _ _ _) (Sl.nil _ _ _) (by decide) (by decide)) ?_
  rintro _ H4 n4 ⟨rfl, hE4⟩
  rw [if_pos rfl, awake_b]
  have hn4 := hE4.le
  have hgs4 : getH H4 nx = some (.cells (strs xyz) 0) := by rw [hE4.get nx (by omega)]; exact hgs3
  simp (disch := first | omega | assumption | exact shr_lt (by assumption) | exact ndiff32 (by assumption) | exact below_lt (by omega) | fail) only [List.getD_cons_zero, List.getD_cons_succ, wBin_lss, wBin_leq, wBin_gtr, wBin_geq, wBin_eql, wBin_neq, wIf_bool, wGuard_true, wGuard_false, wPick_true, wPick_false, wUn_not, wFld_eq, wExt_eq, wPart_one, wPart_agg, wLen_slice, wLen_string, wNew_eq, wNm_eq, dBox_agg, dBox_int, dBox_slice, dBox_string, dBox_bool, dBox_map, dBox_ptr, oneCells, wLd_none, wLd_2, wLd_3, wLd_32, ldP_cells, ldP_rom, cellP_one, getH_same, getH_ne, forceV_eq, forceN_eq, hsK_eq, Option.elim_some, List.getElem?_cons_zero, List.getElem?_cons_succ, Yld.val, decide_true, decide_false, if_true, if_false, Bool.false_eq_true, Nat.zero_add, Nat.add_zero, and_true, true_and, or_false, Bool.not_true, Bool.not_false, and_self, wBin_add64, wBin_sub64, wIdx_slice, wIdx_array, wNilc_eq, Int.toNat_natCast, Nat.mul_one, Nat.zero_mul, wSt_agg, wSt_int, wSt_bool, wSt_string, wSt_slice, wSt_ptr, wSt_map, wSt_func, stP_cells, bit_one, bit_zero, bit_one', bit_zero', wBin_shr32, wBin_and1, wBin_rem2, wBin_andNot32, wBin_or32, wBin_and32, wBin_shl32, u32_eq_zero, u32_ne_zero, List.length_cons, List.length_nil, Nat.le_refl, Nat.reduceAdd, Nat.reduceMul, Nat.reduceLeDiff, Int.toNat_zero, Int.toNat_one, tval]
  refine wCall_rule (parse11 (some ⟨nx, 0, none⟩) xyz ⟨#[112, 97, 116, 104, 32, 122, 32, 120]⟩ 3 H4 n4 (sl_new (by omega) hgs4) (has_new (by omega) hgs4) (fun h => by cases h) xyz_short (by decide) (by decide)) ?_
  rintro _ H5 n5 ⟨⟨P, W, rfl, hV⟩, hE5⟩
  rw [awake_c] at hV ⊢
  obtain ⟨hW, rfl⟩ := hV.2 (by decide)
  obtain ⟨B, rfl, hB, _⟩ := hW.sl
  have hX7 : Ext H5 n5 (Go.Clo.hs (Go.Clo.hs H5 n5 (some (.cells [.int .i64 0, .slice none 0 0, .slice none 0 0] 0))) n5 (some (.cells [.int .i64 2, .slice none 0 0, .slice B (i64s [2, 0]).length (i64s [2, 0]).length] 0))) (n5 + 1) := ((Ext.refl _ _).new _ (Nat.le_refl _) (by omega)).new _ (Nat.le_refl _) (Nat.le_refl _)
  have hg7 : getH (Go.Clo.hs (Go.Clo.hs H5 n5 (some (.cells [.int .i64 0, .slice none 0 0, .slice none 0 0] 0))) n5 (some (.cells [.int .i64 2, .slice none 0 0, .slice B (i64s [2, 0]).length (i64s [2, 0]).length] 0))) n5 = some (.cells [.int .i64 2, .slice none 0 0, .slice B (i64s [2, 0]).length (i64s [2, 0]).length] 0) := getH_same _ _ _
  simp (disch := first | omega | assumption | exact shr_lt (by assumption) | exact ndiff32 (by assumption) | exact below_lt (by omega) | fail) only [List.getD_cons_zero, List.getD_cons_succ, wBin_lss, wBin_leq, wBin_gtr, wBin_geq, wBin_eql, wBin_neq, wIf_bool, wGuard_true, wGuard_false, wPick_true, wPick_false, wUn_not, wFld_eq, wExt_eq, wPart_one, wPart_agg, wLen_slice, wLen_string, wNew_eq, wNm_eq, dBox_agg, dBox_int, dBox_slice, dBox_string, dBox_bool, dBox_map, dBox_ptr, oneCells, wLd_none, wLd_2, wLd_3, wLd_32, ldP_cells, ldP_rom, cellP_one, getH_same, getH_ne, forceV_eq, forceN_eq, hsK_eq, Option.elim_some, List.getElem?_cons_zero, List.getElem?_cons_succ, Yld.val, decide_true, decide_false, if_true, if_false, Bool.false_eq_true, Nat.zero_add, Nat.add_zero, and_true, true_and, or_false, Bool.not_true, Bool.not_false, and_self, wBin_add64, wBin_sub64, wIdx_slice, wIdx_array, wNilc_eq, Int.toNat_natCast, Nat.mul_one, Nat.zero_mul, wSt_agg, wSt_int, wSt_bool, wSt_string, wSt_slice, wSt_ptr, wSt_map, wSt_func, stP_cells, bit_one, bit_zero, bit_one', bit_zero', wBin_shr32, wBin_and1, wBin_rem2, wBin_andNot32, wBin_or32, wBin_and32, wBin_shl32, u32_eq_zero, u32_ne_zero, List.length_cons, List.length_nil, Nat.le_refl, Nat.reduceAdd, Nat.reduceMul, Nat.reduceLeDiff, Int.toNat_zero, Int.toNat_one, putL_lit3]
  generalize Go.Clo.hs (Go.Clo.hs H5 n5 (some (.cells [.int .i64 0, .slice none 0 0, .slice none 0 0] 0))) n5 (some (.cells [.int .i64 2, .slice none 0 0, .slice B (i64s [2, 0]).length (i64s [2, 0]).length] 0)) = H7 at hX7 hg7 ⊢
  have z0 : decide ((0 : Int) = 0) = true := by decide
  have z2 : decide ((2 : Int) = 2) = true := by decide
  simp (disch := first | omega | assumption | exact shr_lt (by assumption) | exact ndiff32 (by assumption) | exact below_lt (by omega) | fail) only [List.getD_cons_zero, List.getD_cons_succ, wBin_lss, wBin_leq, wBin_gtr, wBin_geq, wBin_eql, wBin_neq, wIf_bool, wGuard_true, wGuard_false, wPick_true, wPick_false, wUn_not, wFld_eq, wExt_eq, wPart_one, wPart_agg, wLen_slice, wLen_string, wNew_eq, wNm_eq, dBox_agg, dBox_int, dBox_slice, dBox_string, dBox_bool, dBox_map, dBox_ptr, oneCells, wLd_none, wLd_2, wLd_3, wLd_32, ldP_cells, ldP_rom, cellP_one, getH_same, getH_ne, forceV_eq, forceN_eq, hsK_eq, Option.elim_some, List.getElem?_cons_zero, List.getElem?_cons_succ, Yld.val, decide_true, decide_false, if_true, if_false, Bool.false_eq_true, Nat.zero_add, Nat.add_zero, and_true, true_and, or_false, Bool.not_true, Bool.not_false, and_self, wBin_add64, wBin_sub64, wIdx_slice, wIdx_array, wNilc_eq, Int.toNat_natCast, Nat.mul_one, Nat.zero_mul, wSt_agg, wSt_int, wSt_bool, wSt_string, wSt_slice, wSt_ptr, wSt_map, wSt_func, stP_cells, bit_one, bit_zero, bit_one', bit_zero', wBin_shr32, wBin_and1, wBin_rem2, wBin_andNot32, wBin_or32, wBin_and32, wBin_shl32, u32_eq_zero, u32_ne_zero, List.length_cons, List.length_nil, Nat.le_refl, Nat.reduceAdd, Nat.reduceMul, Nat.reduceLeDiff, Int.toNat_zero, Int.toNat_one, z0, z2, wBin_streq, hg7, dBsl_int2]
  have hX8 : Ext H7 (n5 + 1) (Go.Clo.hs H7 (n5 + 1) (some (.cells (i64s [2, 0]) 0))) (n5 + 1 + 1) := (Ext.refl _ _).new _ (Nat.le_refl _) (by omega)
  refine wCall_rule (equal13 B (some ⟨n5 + 1, 0, none⟩) [2, 0] [2, 0] 2 2 _ (n5 + 1 + 1) (hB.ext (hX7.trans hX8)) (sl_new (by omega) (getH_same _ _ _)) (by decide)) ?_
  rintro _ _ n9 ⟨rfl, rfl, hn9⟩
  have hg8 : getH (Go.Clo.hs H7 (n5 + 1) (some (.cells (i64s [2, 0]) 0))) n5 = some (.cells [.int .i64 2, .slice none 0 0, .slice B (i64s [2, 0]).length (i64s [2, 0]).length] 0) := by rw [getH_ne _ (by omega)]; exact hg7
  have e9 : decide (([2, 0] : List Int) = [2, 0]) = true := by decide
  have z3 : decide (((0 : Nat) : Int) = 0) = true := by decide
  simp (disch := first | omega | assumption | exact shr_lt (by assumption) | exact ndiff32 (by assumption) | exact below_lt (by omega) | fail) only [List.getD_cons_zero, List.getD_cons_succ, wBin_lss, wBin_leq, wBin_gtr, wBin_geq, wBin_eql, wBin_neq, wIf_bool, wGuard_true, wGuard_false, wPick_true, wPick_false, wUn_not, wFld_eq, wExt_eq, wPart_one, wPart_agg, wLen_slice, wLen_string, wNew_eq, wNm_eq, dBox_agg, dBox_int, dBox_slice, dBox_string, dBox_bool, dBox_map, dBox_ptr, oneCells, wLd_none, wLd_2, wLd_3, wLd_32, ldP_cells, ldP_rom, cellP_one, getH_same, getH_ne, forceV_eq, forceN_eq, hsK_eq, Option.elim_some, List.getElem?_cons_zero, List.getElem?_cons_succ, Yld.val, decide_true, decide_false, if_true, if_false, Bool.false_eq_true, Nat.zero_add, Nat.add_zero, and_true, true_and, or_false, Bool.not_true, Bool.not_false, and_self, wBin_add64, wBin_sub64, wIdx_slice, wIdx_array, wNilc_eq, Int.toNat_natCast, Nat.mul_one, Nat.zero_mul, wSt_agg, wSt_int, wSt_bool, wSt_string, wSt_slice, wSt_ptr, wSt_map, wSt_func, stP_cells, bit_one, bit_zero, bit_one', bit_zero', wBin_shr32, wBin_and1, wBin_rem2, wBin_andNot32, wBin_or32, wBin_and32, wBin_shl32, u32_eq_zero, u32_ne_zero, List.length_cons, List.length_nil, Nat.le_refl, Nat.reduceAdd, Nat.reduceMul, Nat.reduceLeDiff, Int.toNat_zero, Int.toNat_one, e9, hg8, z3]
  exact ((((hE2.trans hE3).trans hE4).trans hE5).trans (hX7.trans hX8)).more hn9

set_option maxHeartbeats 4000000 in
theorem law3 (A P W : Option Addr) (vs : List ByteArray) (kind : Int) (p w : List Int) (cap pc wc : Nat) (H : Heap) (nx : Nat) (hS : Sl H nx A (strs vs)) (hA0 : Has H nx A) (hcap : A = none → cap = 0) (hP : Sl H nx P (i64s p)) (hW : Sl H nx W (i64s w))
    (h1 : vs.length < 4611686018427387904) (h2 : p.length < 2305843009213693952) (h3 : w.length < 2305843009213693952) :
    Ans Tryd.prog 3 [.slice A vs.length cap, .agg ⟨[.int .i64 kind, .slice P p.length pc, .slice W w.length wc]⟩] H nx fun v _ _ => v = .bool true := by
  refine spec3 ?_
  unfold F3
  have hX : Ext H nx (Go.Clo.hs H nx (some (.cells [.int .i64 kind, .slice P p.length pc, .slice W w.length wc] 0))) (nx + 1) := (Ext.refl H nx).new _ (Nat.le_refl _) (by omega)
  have hg1 : getH (Go.Clo.hs H nx (some (.cells [.int .i64 kind, .slice P p.length pc, .slice W w.length wc] 0))) nx = some (.cells [.int .i64 kind, .slice P p.length pc, .slice W w.length wc] 0) := getH_same _ _ _
  simp (disch := first | omega | assumption | exact shr_lt (by assumption) | exact ndiff32 (by assumption) | exact below_lt (by omega) | fail) only [List.getD_cons_zero, List.getD_cons_succ, wBin_lss, wBin_leq, wBin_gtr, wBin_geq, wBin_eql, wBin_neq, wIf_bool, wGuard_true, wGuard_false, wPick_true, wPick_false, wUn_not, wFld_eq, wExt_eq, wPart_one, wPart_agg, wLen_slice, wLen_string, wNew_eq, wNm_eq, dBox_agg, dBox_int, dBox_slice, dBox_string, dBox_bool, dBox_map, dBox_ptr, oneCells, wLd_none, wLd_2, wLd_3, wLd_32, ldP_cells, ldP_rom, cellP_one, getH_same, getH_ne, forceV_eq, forceN_eq, hsK_eq, Option.elim_some, List.getElem?_cons_zero, List.getElem?_cons_succ, Yld.val, decide_true, decide_false, if_true, if_false, Bool.false_eq_true, Nat.zero_add, Nat.add_zero, and_true, true_and, or_false, Bool.not_true, Bool.not_false, and_self, wBin_add64, wBin_sub64, wIdx_slice, wIdx_array, wNilc_eq, Int.toNat_natCast, Nat.mul_one, Nat.zero_mul, wSt_agg, wSt_int, wSt_bool, wSt_string, wSt_slice, wSt_ptr, wSt_map, wSt_func, stP_cells, bit_one, bit_zero, bit_one', bit_zero', wBin_shr32, wBin_and1, wBin_rem2, wBin_andNot32, wBin_or32, wBin_and32, wBin_shl32, u32_eq_zero, u32_ne_zero, List.length_cons, List.length_nil, Nat.le_refl, Nat.reduceAdd, Nat.reduceMul, Nat.reduceLeDiff, Int.toNat_zero, Int.toNat_one, cellP_lit3]
  generalize Go.Clo.hs H nx (some (.cells [.int .i64 kind, .slice P p.length pc, .slice W w.length wc] 0)) = H1 at hX hg1 ⊢
  refine wCall_rule (great6 A P W vs kind cap p.length pc w.length wc H1 (nx + 1) (hS.ext hX) h1 h2 h3) ?_
  rintro _ H2 n2 ⟨⟨c, rfl, hc⟩, hE2⟩
  have hn2 := hE2.le
  have hg2 : getH H2 nx = some (.cells [.int .i64 kind, .slice P p.length pc, .slice W w.length wc] 0) := by rw [hE2.get nx (by omega)]; exact hg1
  cases c with
  | true =>
    simp (disch := first | omega | assumption | exact shr_lt (by assumption) | exact ndiff32 (by assumption) | exact below_lt (by omega) | fail) only [List.getD_cons_zero, List.getD_cons_succ, wBin_lss, wBin_leq, wBin_gtr, wBin_geq, wBin_eql, wBin_neq, wIf_bool, wGuard_true, wGuard_false, wPick_true, wPick_false, wUn_not, wFld_eq, wExt_eq, wPart_one, wPart_agg, wLen_slice, wLen_string, wNew_eq, wNm_eq, dBox_agg, dBox_int, dBox_slice, dBox_string, dBox_bool, dBox_map, dBox_ptr, oneCells, wLd_none, wLd_2, wLd_3, wLd_32, ldP_cells, ldP_rom, cellP_one, getH_same, getH_ne, forceV_eq, forceN_eq, hsK_eq, Option.elim_some, List.getElem?_cons_zero, List.getElem?_cons_succ, Yld.val, decide_true, decide_false, if_true, if_false, Bool.false_eq_true, Nat.zero_add, Nat.add_zero, and_true, true_and, or_false, Bool.not_true, Bool.not_false, and_self, wBin_add64, wBin_sub64, wIdx_slice, wIdx_array, wNilc_eq, Int.toNat_natCast, Nat.mul_one, Nat.zero_mul, wSt_agg, wSt_int, wSt_bool, wSt_string, wSt_slice, wSt_ptr, wSt_map, wSt_func, stP_cells, bit_one, bit_zero, bit_one', bit_zero', wBin_shr32, wBin_and1, wBin_rem2, wBin_andNot32, wBin_or32, wBin_and32, wBin_shl32, u32_eq_zero, u32_ne_zero, List.length_cons, List.length_nil, Nat.le_refl, Nat.reduceAdd, Nat.reduceMul, Nat.reduceLeDiff, Int.toNat_zero, Int.toNat_one]
    refine wCall_rule (awake7 H2 n2) ?_
    rintro _ H3 n3 ⟨rfl, _⟩
    simp (disch := first | omega | assumption | exact shr_lt (by assumption) | exact ndiff32 (by assumption) | exact below_lt (by omega) | fail) only [List.getD_cons_zero, List.getD_cons_succ, wBin_lss, wBin_leq, wBin_gtr, wBin_geq, wBin_eql, wBin_neq, wIf_bool, wGuard_true, wGuard_false, wPick_true, wPick_false, wUn_not, wFld_eq, wExt_eq, wPart_one, wPart_agg, wLen_slice, wLen_string, wNew_eq, wNm_eq, dBox_agg, dBox_int, dBox_slice, dBox_string, dBox_bool, dBox_map, dBox_ptr, oneCells, wLd_none, wLd_2, wLd_3, wLd_32, ldP_cells, ldP_rom, cellP_one, getH_same, getH_ne, forceV_eq, forceN_eq, hsK_eq, Option.elim_some, List.getElem?_cons_zero, List.getElem?_cons_succ, Yld.val, decide_true, decide_false, if_true, if_false, Bool.false_eq_true, Nat.zero_add, Nat.add_zero, and_true, true_and, or_false, Bool.not_true, Bool.not_false, and_self, wBin_add64, wBin_sub64, wIdx_slice, wIdx_array, wNilc_eq, Int.toNat_natCast, Nat.mul_one, Nat.zero_mul, wSt_agg, wSt_int, wSt_bool, wSt_string, wSt_slice, wSt_ptr, wSt_map, wSt_func, stP_cells, bit_one, bit_zero, bit_one', bit_zero', wBin_shr32, wBin_and1, wBin_rem2, wBin_andNot32, wBin_or32, wBin_and32, wBin_shl32, u32_eq_zero, u32_ne_zero, List.length_cons, List.length_nil, Nat.le_refl, Nat.reduceAdd, Nat.reduceMul, Nat.reduceLeDiff, Int.toNat_zero, Int.toNat_one]
  | false =>
    obtain ⟨hv, hlv, hpw⟩ := hc rfl
    have hE02 := hX.trans hE2
    simp (disch := first | omega | assumption | exact shr_lt (by assumption) | exact ndiff32 (by assumption) | exact below_lt (by omega) | fail) only [List.getD_cons_zero, List.getD_cons_succ, wBin_lss, wBin_leq, wBin_gtr, wBin_geq, wBin_eql, wBin_neq, wIf_bool, wGuard_true, wGuard_false, wPick_true, wPick_false, wUn_not, wFld_eq, wExt_eq, wPart_one, wPart_agg, wLen_slice, wLen_string, wNew_eq, wNm_eq, dBox_agg, dBox_int, dBox_slice, dBox_string, dBox_bool, dBox_map, dBox_ptr, oneCells, wLd_none, wLd_2, wLd_3, wLd_32, ldP_cells, ldP_rom, cellP_one, getH_same, getH_ne, forceV_eq, forceN_eq, hsK_eq, Option.elim_some, List.getElem?_cons_zero, List.getElem?_cons_succ, Yld.val, decide_true, decide_false, if_true, if_false, Bool.false_eq_true, Nat.zero_add, Nat.add_zero, and_true, true_and, or_false, Bool.not_true, Bool.not_false, and_self, wBin_add64, wBin_sub64, wIdx_slice, wIdx_array, wNilc_eq, Int.toNat_natCast, Nat.mul_one, Nat.zero_mul, wSt_agg, wSt_int, wSt_bool, wSt_string, wSt_slice, wSt_ptr, wSt_map, wSt_func, stP_cells, bit_one, bit_zero, bit_one', bit_zero', wBin_shr32, wBin_and1, wBin_rem2, wBin_andNot32, wBin_or32, wBin_and32, wBin_shl32, u32_eq_zero, u32_ne_zero, List.length_cons, List.length_nil, Nat.le_refl, Nat.reduceAdd, Nat.reduceMul, Nat.reduceLeDiff, Int.toNat_zero, Int.toNat_one, hg2, cellP_lit3]
    refine wCall_rule (verdict8 A P W vs kind p w cap pc wc H2 n2 (hS.ext hE02) (hA0.ext hE02) hcap hv (by omega) (hP.ext hE02) (hW.ext hE02) (by omega) (by omega)) ?_
    rintro _ H4 n4 ⟨rfl, hE4⟩
    have hn4 := hE4.le
    have hE04 := hE02.trans hE4
    have hg4 : getH H4 nx = some (.cells [.int .i64 kind, .slice P p.length pc, .slice W w.length wc] 0) := by rw [hE4.get nx (by omega)]; exact hg2
    simp (disch := first | omega | assumption | exact shr_lt (by assumption) | exact ndiff32 (by assumption) | exact below_lt (by omega) | fail) only [List.getD_cons_zero, List.getD_cons_succ, wBin_lss, wBin_leq, wBin_gtr, wBin_geq, wBin_eql, wBin_neq, wIf_bool, wGuard_true, wGuard_false, wPick_true, wPick_false, wUn_not, wFld_eq, wExt_eq, wPart_one, wPart_agg, wLen_slice, wLen_string, wNew_eq, wNm_eq, dBox_agg, dBox_int, dBox_slice, dBox_string, dBox_bool, dBox_map, dBox_ptr, oneCells, wLd_none, wLd_2, wLd_3, wLd_32, ldP_cells, ldP_rom, cellP_one, getH_same, getH_ne, forceV_eq, forceN_eq, hsK_eq, Option.elim_some, List.getElem?_cons_zero, List.getElem?_cons_succ, Yld.val, decide_true, decide_false, if_true, if_false, Bool.false_eq_true, Nat.zero_add, Nat.add_zero, and_true, true_and, or_false, Bool.not_true, Bool.not_false, and_self, wBin_add64, wBin_sub64, wIdx_slice, wIdx_array, wNilc_eq, Int.toNat_natCast, Nat.mul_one, Nat.zero_mul, wSt_agg, wSt_int, wSt_bool, wSt_string, wSt_slice, wSt_ptr, wSt_map, wSt_func, stP_cells, bit_one, bit_zero, bit_one', bit_zero', wBin_shr32, wBin_and1, wBin_rem2, wBin_andNot32, wBin_or32, wBin_and32, wBin_shl32, u32_eq_zero, u32_ne_zero, List.length_cons, List.length_nil, Nat.le_refl, Nat.reduceAdd, Nat.reduceMul, Nat.reduceLeDiff, Int.toNat_zero, Int.toNat_one, tval, hg4, cellP_lit3]
    refine wCall_rule (printed10 kind P W p.length pc w.length wc H4 (n4 + 11)) ?_
    rintro _ H6 n6 ⟨rfl, hE6⟩
    have hn6 := hE6.le
    have hE6' : Ext H4 n4 H6 n6 := (Ext.self (by omega)).trans hE6
    have hE06 := hE04.trans hE6'
    have hg6 : getH H6 nx = some (.cells [.int .i64 kind, .slice P p.length pc, .slice W w.length wc] 0) := by rw [hE6.get nx (by omega)]; exact hg4
    obtain ⟨L, B, bc, hL, hBs, hBl, hLl⟩ : ∃ (L : List Int) (B : Option Addr) (bc : Nat), (if kind = 0 then p else w) = L ∧ (if kind = 0 then Value.slice P p.length pc else .slice W w.length wc) = .slice B L.length bc ∧ Sl H nx B (i64s L) ∧ L.length ≤ 1000 := by
      by_cases hk0 : kind = 0
      · exact ⟨p, P, pc, if_pos hk0, if_pos hk0, hP, by omega⟩
      · exact ⟨w, W, wc, if_neg hk0, if_neg hk0, hW, by omega⟩
    rw [hL, hBs]
    refine wCall_rule (text9 A B vs kind L cap bc H6 n6 (hS.ext hE06) (hBl.ext hE06) hv (by omega) hLl) ?_
    rintro _ H7 n7 ⟨rfl, hE7⟩
    have t1 : decide ((textOf vs kind L).1 = (textOf vs kind L).1) = true := by simp
    have t2 : decide ((textOf vs kind L).2 = (textOf vs kind L).2) = true := by simp
    simp (disch := first | omega | assumption | exact shr_lt (by assumption) | exact ndiff32 (by assumption) | exact below_lt (by omega) | fail) only [List.getD_cons_zero, List.getD_cons_succ, wBin_lss, wBin_leq, wBin_gtr, wBin_geq, wBin_eql, wBin_neq, wIf_bool, wGuard_true, wGuard_false, wPick_true, wPick_false, wUn_not, wFld_eq, wExt_eq, wPart_one, wPart_agg, wLen_slice, wLen_string, wNew_eq, wNm_eq, dBox_agg, dBox_int, dBox_slice, dBox_string, dBox_bool, dBox_map, dBox_ptr, oneCells, wLd_none, wLd_2, wLd_3, wLd_32, ldP_cells, ldP_rom, cellP_one, getH_same, getH_ne, forceV_eq, forceN_eq, hsK_eq, Option.elim_some, List.getElem?_cons_zero, List.getElem?_cons_succ, Yld.val, decide_true, decide_false, if_true, if_false, Bool.false_eq_true, Nat.zero_add, Nat.add_zero, and_true, true_and, or_false, Bool.not_true, Bool.not_false, and_self, wBin_add64, wBin_sub64, wIdx_slice, wIdx_array, wNilc_eq, Int.toNat_natCast, Nat.mul_one, Nat.zero_mul, wSt_agg, wSt_int, wSt_bool, wSt_string, wSt_slice, wSt_ptr, wSt_map, wSt_func, stP_cells, bit_one, bit_zero, bit_one', bit_zero', wBin_shr32, wBin_and1, wBin_rem2, wBin_andNot32, wBin_or32, wBin_and32, wBin_shl32, u32_eq_zero, u32_ne_zero, List.length_cons, List.length_nil, Nat.le_refl, Nat.reduceAdd, Nat.reduceMul, Nat.reduceLeDiff, Int.toNat_zero, Int.toNat_one, tval, hg4, hg6, cellP_lit3, wBin_streq, t1, t2]
    refine wCall_rule (awake7 H7 n7) ?_
    rintro _ H8 n8 ⟨rfl, _⟩
    simp (disch := first | omega | assumption | exact shr_lt (by assumption) | exact ndiff32 (by assumption) | exact below_lt (by omega) | fail) only [List.getD_cons_zero, List.getD_cons_succ, wBin_lss, wBin_leq, wBin_gtr, wBin_geq, wBin_eql, wBin_neq, wIf_bool, wGuard_true, wGuard_false, wPick_true, wPick_false, wUn_not, wFld_eq, wExt_eq, wPart_one, wPart_agg, wLen_slice, wLen_string, wNew_eq, wNm_eq, dBox_agg, dBox_int, dBox_slice, dBox_string, dBox_bool, dBox_map, dBox_ptr, oneCells, wLd_none, wLd_2, wLd_3, wLd_32, ldP_cells, ldP_rom, cellP_one, getH_same, getH_ne, forceV_eq, forceN_eq, hsK_eq, Option.elim_some, List.getElem?_cons_zero, List.getElem?_cons_succ, Yld.val, decide_true, decide_false, if_true, if_false, Bool.false_eq_true, Nat.zero_add, Nat.add_zero, and_true, true_and, or_false, Bool.not_true, Bool.not_false, and_self, wBin_add64, wBin_sub64, wIdx_slice, wIdx_array, wNilc_eq, Int.toNat_natCast, Nat.mul_one, Nat.zero_mul, wSt_agg, wSt_int, wSt_bool, wSt_string, wSt_slice, wSt_ptr, wSt_map, wSt_func, stP_cells, bit_one, bit_zero, bit_one', bit_zero', wBin_shr32, wBin_and1, wBin_rem2, wBin_andNot32, wBin_or32, wBin_and32, wBin_shl32, u32_eq_zero, u32_ne_zero, List.length_cons, List.length_nil, Nat.le_refl, Nat.reduceAdd, Nat.reduceMul, Nat.reduceLeDiff, Int.toNat_zero, Int.toNat_one]

/-- The lists of a parsed verdict. -/
theorem VOK.open {lo : Nat} {H : Heap} {nx : Nat} {kind : Int} {l : List Int} {P W : Value} (h : VOK lo H nx kind l P W) : ∃ (PA WA : Option Addr) (p w : List Int), P = .slice PA p.length p.length ∧ W = .slice WA w.length w.length ∧ Sl H nx PA (i64s p) ∧ Sl H nx WA (i64s w) ∧ (if kind = 0 then p else w) = l ∧ p.length + w.length = l.length ∧ (kind = 0 → p = l ∧ w = []) ∧ (kind ≠ 0 → w = l ∧ p = []) := by
  by_cases hk : kind = 0
  · obtain ⟨h1, rfl⟩ := h.1 hk
    obtain ⟨A, rfl, h2, _⟩ := h1.sl
    rw [i64s_length]
    exact ⟨A, none, l, [], rfl, rfl, h2, Sl.nil _ _ _, if_pos hk, by simp, fun _ => ⟨rfl, rfl⟩, fun h => absurd hk h⟩
  · obtain ⟨h1, rfl⟩ := h.2 hk
    obtain ⟨A, rfl, h2, _⟩ := h1.sl
    rw [i64s_length]
    exact ⟨none, A, [], l, rfl, rfl, Sl.nil _ _ _, h2, if_neg hk, by simp, fun h => absurd h hk, fun _ => ⟨rfl, rfl⟩⟩

end Go.Proofs.YtjpgddpobnjmkaaDoor
