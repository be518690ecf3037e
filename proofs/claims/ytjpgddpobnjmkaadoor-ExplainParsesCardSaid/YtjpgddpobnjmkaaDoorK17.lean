/-
  Contracts: the words of the kinds, the names of a list of numbers, the text of a verdict (the program's and the reference's).
-/
import Derived.Test.YtjpgddpobnjmkaaDoorK16
set_option linter.unusedSimpArgs false
set_option linter.unusedVariables false
set_option linter.unusedSectionVars false
namespace Go.Proofs.YtjpgddpobnjmkaaDoor
open Go.Clo

def wordL : List ByteArray := [⟨#[97, 99, 99, 101, 112, 116, 101, 100]⟩, ⟨#[99, 121, 99, 108, 105, 99]⟩, ⟨#[112, 97, 116, 104]⟩, ⟨#[116, 114, 105, 111]⟩]
theorem dBsl_str (s z : ByteArray) (k : List Value → Prop) : dBsl 1 1 [.string z] [(0, .string s)] k = k [.string s] := by
  rw [dBsl_eq]
  show (if oneCells [Value.string s] = true then k [Value.string s] else False) = _
  exact if_pos (show oneCells [Value.string s] = true from rfl)
theorem dBsl_i64 (K : IntKind) (s z : Int) (k : List Value → Prop) : dBsl 1 1 [.int K z] [(0, .int K s)] k = k [.int K s] := by
  rw [dBsl_eq]
  show (if oneCells [Value.int K s] = true then k [Value.int K s] else False) = _
  exact if_pos (show oneCells [Value.int K s] = true from rfl)
theorem dBsl_none (z : List Value) (k : List Value → Prop) : dBsl 0 1 z [] k = k [] := by
  rw [dBsl_eq]
  show (if oneCells [] = true then k [] else False) = _
  exact if_pos (show oneCells [] = true from rfl)
theorem dBsl_words (k : List Value → Prop) : dBsl 4 1 [.string ⟨#[]⟩] [(0, (.string ⟨#[97, 99, 99, 101, 112, 116, 101, 100]⟩)), (1, (.string ⟨#[99, 121, 99, 108, 105, 99]⟩)), (2, (.string ⟨#[112, 97, 116, 104]⟩)), (3, (.string ⟨#[116, 114, 105, 111]⟩))] k = k (strs wordL) := by
  rw [dBsl_eq]
  show (if oneCells (strs wordL) = true then k (strs wordL) else False) = _
  exact if_pos (show oneCells (strs wordL) = true from rfl)
theorem words15 (H : Heap) (nx : Nat) : Ans Tryd.prog 15 [] H nx fun r H' nx' => .slice (some ⟨nx, 0, none⟩) 4 4 = r ∧ hs H nx (some (.cells (strs wordL) 0)) = H' ∧ nx + 1 = nx' := by
  refine spec15 ?_
  unfold F15
  simp (disch := first | omega | assumption | exact shr_lt (by assumption) | exact ndiff32 (by assumption) | exact below_lt (by omega) | fail) only [List.getD_cons_zero, List.getD_cons_succ, wBin_lss, wBin_leq, wBin_gtr, wBin_geq, wBin_eql, wBin_neq, wIf_bool, wGuard_true, wGuard_false, wPick_true, wPick_false, wUn_not, wFld_eq, wExt_eq, wPart_one, wPart_agg, wLen_slice, wLen_string, wNew_eq, wNm_eq, dBox_agg, dBox_int, dBox_slice, dBox_string, dBox_bool, dBox_map, dBox_ptr, oneCells, wLd_none, wLd_2, wLd_3, wLd_32, ldP_cells, ldP_rom, cellP_one, getH_same, getH_ne, forceV_eq, forceN_eq, hsK_eq, Option.elim_some, List.getElem?_cons_zero, List.getElem?_cons_succ, Yld.val, decide_true, decide_false, if_true, if_false, Bool.false_eq_true, Nat.zero_add, Nat.add_zero, and_true, true_and, or_false, Bool.not_true, Bool.not_false, and_self, wBin_add64, wBin_sub64, wIdx_slice, wIdx_array, wNilc_eq, Int.toNat_natCast, Nat.mul_one, Nat.zero_mul, wSt_agg, wSt_int, wSt_bool, wSt_string, wSt_slice, wSt_ptr, wSt_map, wSt_func, stP_cells, bit_one, bit_zero, bit_one', bit_zero', wBin_shr32, wBin_and1, wBin_rem2, wBin_andNot32, wBin_or32, wBin_and32, wBin_shl32, u32_eq_zero, u32_ne_zero, List.length_cons, List.length_nil, Nat.le_refl, Nat.reduceAdd, Nat.reduceMul, Nat.reduceLeDiff, Int.toNat_zero, Int.toNat_one, dBsl_words]
theorem words20 (H : Heap) (nx : Nat) : Ans Tryd.prog 20 [] H nx fun r H' nx' => .slice (some ⟨nx, 0, none⟩) 4 4 = r ∧ hs H nx (some (.cells (strs wordL) 0)) = H' ∧ nx + 1 = nx' := by
  refine spec20 ?_
  unfold F20
  simp (disch := first | omega | assumption | exact shr_lt (by assumption) | exact ndiff32 (by assumption) | exact below_lt (by omega) | fail) only [List.getD_cons_zero, List.getD_cons_succ, wBin_lss, wBin_leq, wBin_gtr, wBin_geq, wBin_eql, wBin_neq, wIf_bool, wGuard_true, wGuard_false, wPick_true, wPick_false, wUn_not, wFld_eq, wExt_eq, wPart_one, wPart_agg, wLen_slice, wLen_string, wNew_eq, wNm_eq, dBox_agg, dBox_int, dBox_slice, dBox_string, dBox_bool, dBox_map, dBox_ptr, oneCells, wLd_none, wLd_2, wLd_3, wLd_32, ldP_cells, ldP_rom, cellP_one, getH_same, getH_ne, forceV_eq, forceN_eq, hsK_eq, Option.elim_some, List.getElem?_cons_zero, List.getElem?_cons_succ, Yld.val, decide_true, decide_false, if_true, if_false, Bool.false_eq_true, Nat.zero_add, Nat.add_zero, and_true, true_and, or_false, Bool.not_true, Bool.not_false, and_self, wBin_add64, wBin_sub64, wIdx_slice, wIdx_array, wNilc_eq, Int.toNat_natCast, Nat.mul_one, Nat.zero_mul, wSt_agg, wSt_int, wSt_bool, wSt_string, wSt_slice, wSt_ptr, wSt_map, wSt_func, stP_cells, bit_one, bit_zero, bit_one', bit_zero', wBin_shr32, wBin_and1, wBin_rem2, wBin_andNot32, wBin_or32, wBin_and32, wBin_shl32, u32_eq_zero, u32_ne_zero, List.length_cons, List.length_nil, Nat.le_refl, Nat.reduceAdd, Nat.reduceMul, Nat.reduceLeDiff, Int.toNat_zero, Int.toNat_one, dBsl_words]

/-! Append to a literal. -/
theorem firstK_lit {H : Heap} {size n b cap sl : Nat} {c : List Value} (hsz : 0 < size) (hg : getH H b = some (.cells c sl)) (hl : c.length = n * size) (k : List Value → Prop) : firstK H size n (.slice (some ⟨b, 0, none⟩) n cap) False k = k c := by
  rcases Nat.eq_zero_or_pos n with h0 | h0
  · subst h0
    simp at hl; subst hl
    unfold firstK rowK
    dsimp only
    rw [getB_eq, hg]
    simp only [Option.elim_some, Nat.zero_mul, takeN]
    exact spine_eq _ _
  · exact (src_new hg hl (Nat.mul_pos h0 hsz)).first k
theorem wApp_lit {H : Heap} {nx size bytes b n : Nat} {c : List Value} {x : Value} {m : Nat} {l : List Value} {k : EP} (hsz : 0 < size) (hg : getH H b = some (.cells c 0)) (hl : c.length = n * size) (hx : Src H size x m l) (hm : 0 < m) (ho : oneCells l = true)
    (hb1 : (2 * (n + m) + 1000) * bytes ≤ 281474976710656) (hb2 : n + m ≤ 1000000000) : wApp (.slice (some ⟨b, 0, none⟩) n n) x size bytes H nx k = k (.slice (some ⟨nx, 0, none⟩) (n + m) (n + m)) (hs H nx (some (.cells (c ++ l) size))) (nx + 1) := by
  have hlen : (c ++ l).length = (n + m) * size := by rw [List.length_append, hl, hx.size, Nat.add_mul]
  unfold wApp appK
  rw [hx.len]
  dsimp only
  rw [forceN_eq, bltrue hb1, bltrue hb2]
  simp only [Bool.and_self, cond_true]
  rw [hx.first, ho, blfalse (show n < n + m by omega)]
  simp only [cond_true, cond_false]
  rw [firstK_lit hsz hg hl, spine_eq, hlen, beqtrue]
  simp only [cond_true, appOut]
  rw [getB_eq, hg]
  simp only [Option.elim_some]
  have hls : looseA (.cells c 0) 0 n size = some false := rfl
  rw [hls]
  dsimp only
  simp only [appNew]
  rw [forceN_eq, forceN_eq, hsK_eq]
theorem wApp_lit0 {H : Heap} {nx size bytes b n : Nat} {c : List Value} {x : Value} {k : EP} (hg : getH H b = some (.cells c 0)) (hl : c.length = n * size) (hx : Src H size x 0 [])
    (hb1 : (2 * n + 1000) * bytes ≤ 281474976710656) (hb2 : n ≤ 1000000000) : wApp (.slice (some ⟨b, 0, none⟩) n n) x size bytes H nx k = k (.slice (some ⟨b, 0, none⟩) n n) (hs H b (some (.cells c 0))) nx := by
  unfold wApp appK
  rw [hx.len]
  dsimp only
  rw [forceN_eq, bltrue (show (2 * (n + 0) + 1000) * bytes ≤ 281474976710656 from hb1), bltrue (show n + 0 ≤ 1000000000 from hb2)]
  simp only [Bool.and_self, cond_true]
  rw [hx.first]
  simp only [oneCells, cond_true, Nat.add_zero, bltrue (Nat.le_refl n), appIn, forceN_eq]
  rw [putCK_eq, hg]
  simp only [stP_cells, List.length_nil, Nat.add_zero, Nat.zero_add, putL, List.append_nil, List.take_append_drop, hl, Nat.le_refl, true_and]

/-- A slice that was made by append, from nothing or from an empty literal. -/
def AccL (lo : Nat) (H : Heap) (nx : Nat) (v : Value) (c : List Value) : Prop :=
  Acc lo H nx 1 v c.length c ∨ (c = [] ∧ ∃ b, lo ≤ b ∧ b < nx ∧ v = .slice (some ⟨b, 0, none⟩) 0 0 ∧ getH H b = some (.cells [] 0))
theorem AccL.ext {lo : Nat} {H : Heap} {nx : Nat} {v : Value} {c : List Value} {H' : Heap} {nx' : Nat} (h : AccL lo H nx v c) (e : Ext H nx H' nx') : AccL lo H' nx' v c := by
  rcases h with h | ⟨h0, b, h1, h2, h3, h4⟩
  · exact .inl (h.ext e)
  · exact .inr ⟨h0, b, h1, Nat.lt_of_lt_of_le h2 e.le, h3, by rw [e.get b h2]; exact h4⟩
theorem AccL.sl {lo : Nat} {H : Heap} {nx : Nat} {v : Value} {c : List Value} (h : AccL lo H nx v c) : ∃ A, v = .slice A c.length c.length ∧ Sl H nx A c ∧ Has H nx A := by
  rcases h with h | ⟨rfl, b, h1, h2, rfl, h4⟩
  · obtain ⟨A, rfl, hS⟩ := h.sl
    refine ⟨A, rfl, hS, ?_⟩
    rcases h.2 with ⟨_, e⟩ | ⟨b, _, h2, e, h4⟩
    · injection e with e1
      exact .inl e1
    · injection e with e1
      subst e1
      exact .inr ⟨b, 0, c, rfl, h2, by simp [rowOf, h4, Blk.row]⟩
  · exact ⟨_, rfl, Sl.nil _ _ _, .inr ⟨b, 0, [], rfl, h2, by simp [rowOf, h4, Blk.row]⟩⟩
theorem wApp_accL {lo : Nat} {H : Heap} {nx bytes : Nat} {v : Value} {c : List Value} {x y : Value} {H0 : Heap} {k : EP} (hA : AccL lo H nx v c) (hx : Src H 1 x 1 [y]) (ho : oneCells [y] = true) (hb : bytes ≤ 16) (hlen : c.length ≤ 1000000) (hE : Ext H0 lo H nx) (hlo : lo ≤ nx)
    (hk : ∀ v' H', AccL lo H' (nx + 1) v' (c ++ [y]) → Ext H0 lo H' (nx + 1) → (∀ i, i < lo → getH H' i = getH H i) → k v' H' (nx + 1)) : wApp v x 1 bytes H nx k := by
  have hb1 : (2 * (c.length + 1) + 1000) * bytes ≤ 281474976710656 := by
    have := Nat.mul_le_mul (show 2 * (c.length + 1) + 1000 ≤ 2 * 1000001 + 1000 by omega) hb
    omega
  rcases hA with hA | ⟨rfl, b, h1, h2, rfl, h4⟩
  · have hblk : ∀ A n' c', v = .slice (some A) n' c' → lo ≤ A.block := fun A n' c' e => by
      rcases hA.2 with ⟨_, e'⟩ | ⟨b, h1, _, e', _⟩
      · rw [e'] at e; cases e
      · rw [e'] at e; cases e; exact h1
    refine wApp_acc (by omega) hA hx (by omega) ho hb1 (by omega) hE hlo fun v' H' h1 h2 h3 => hk v' H' (.inl ?_) h2 fun i hi => h3 i (by omega) fun A n' c' e => by have := hblk A n' c' e; omega
    rw [List.length_append]; exact h1
  · rw [wApp_lit (n := 0) (by omega) h4 (by simp) hx (by omega) ho (by simpa using hb1) (by omega)]
    exact hk _ _ (.inl ⟨rfl, .inr ⟨nx, hlo, by omega, rfl, getH_same _ _ _⟩⟩) (hE.new _ hlo (by omega)) fun i hi => getH_ne _ (by omega)

/-! The names of a list of numbers. -/
def pick (vs : List ByteArray) (i : Int) : Option ByteArray := if 0 ≤ i then vs[i.toNat]? else none
def listOf (vs : List ByteArray) : List Int → Option (List ByteArray)
  | [] => some []
  | i :: r => match pick vs i with
    | some z => (listOf vs r).map (z :: ·)
    | none => none
theorem listOf_snoc {vs : List ByteArray} {x : Int} {z : ByteArray} (hx : pick vs x = some z) : ∀ {l : List Int} {zs : List ByteArray}, listOf vs l = some zs → listOf vs (l ++ [x]) = some (zs ++ [z])
  | [], zs, h => by
    cases h
    simp [listOf, hx]
  | i :: r, zs, h => by
    unfold listOf at h
    cases hp : pick vs i with
    | none => rw [hp] at h; cases h
    | some y =>
      rw [hp] at h
      obtain ⟨ys, h1, rfl⟩ := Option.map_eq_some_iff.1 h
      rw [List.cons_append, listOf, hp, listOf_snoc hx h1]
      rfl
theorem listOf_bad {vs : List ByteArray} {x : Int} (hx : pick vs x = none) : ∀ {l : List Int}, x ∈ l → listOf vs l = none
  | i :: r, h => by
    rcases List.mem_cons.1 h with rfl | h
    · rw [listOf, hx]
    · rw [listOf]
      cases pick vs i with
      | none => rfl
      | some z => rw [listOf_bad hx h]; rfl
theorem listOf_mem {vs : List ByteArray} : ∀ {l : List Int} {zs : List ByteArray}, listOf vs l = some zs → ∀ z ∈ zs, z ∈ vs
  | [], zs, h => by cases h; simp
  | i :: r, zs, h => by
    unfold listOf at h
    cases hp : pick vs i with
    | none => rw [hp] at h; cases h
    | some y =>
      rw [hp] at h
      obtain ⟨ys, h1, rfl⟩ := Option.map_eq_some_iff.1 h
      intro z hz
      rcases List.mem_cons.1 hz with rfl | hz
      · unfold pick at hp
        split at hp
        · exact List.mem_of_getElem? hp
        · cases hp
      · exact listOf_mem h1 z hz
theorem listOf_length {vs : List ByteArray} : ∀ {l : List Int} {zs : List ByteArray}, listOf vs l = some zs → zs.length = l.length
  | [], zs, h => by cases h; rfl
  | i :: r, zs, h => by
    unfold listOf at h
    cases hp : pick vs i with
    | none => rw [hp] at h; cases h
    | some y =>
      rw [hp] at h
      obtain ⟨ys, h1, rfl⟩ := Option.map_eq_some_iff.1 h
      simp [listOf_length h1]

set_option maxHeartbeats 1000000 in
theorem named16 (A B : Option Addr) (vs : List ByteArray) (l : List Int) (capA capB : Nat) (H : Heap) (nx : Nat) (hS : Sl H nx A (strs vs)) (hB : Sl H nx B (i64s l)) (hl : l.length ≤ 1000000) : Ans Tryd.prog 16 [.slice A vs.length capA, .slice B l.length capB] H nx fun r H' nx' => (∀ zs, listOf vs l = some zs → ∃ v, r = .tuple ⟨[v, .int .i64 0]⟩ ∧ AccL nx H' nx' v (strs zs)) ∧ (listOf vs l = none → r = .tuple ⟨[.slice none 0 0, .int .i64 3]⟩) ∧ Ext H nx H' nx' := by
  refine spec16 ?_
  unfold F16
  simp (disch := first | omega | assumption | exact shr_lt (by assumption) | exact ndiff32 (by assumption) | exact below_lt (by omega) | fail) only [List.getD_cons_zero, List.getD_cons_succ, wBin_lss, wBin_leq, wBin_gtr, wBin_geq, wBin_eql, wBin_neq, wIf_bool, wGuard_true, wGuard_false, wPick_true, wPick_false, wUn_not, wFld_eq, wExt_eq, wPart_one, wPart_agg, wLen_slice, wLen_string, wNew_eq, wNm_eq, dBox_agg, dBox_int, dBox_slice, dBox_string, dBox_bool, dBox_map, dBox_ptr, oneCells, wLd_none, wLd_2, wLd_3, wLd_32, ldP_cells, ldP_rom, cellP_one, getH_same, getH_ne, forceV_eq, forceN_eq, hsK_eq, Option.elim_some, List.getElem?_cons_zero, List.getElem?_cons_succ, Yld.val, decide_true, decide_false, if_true, if_false, Bool.false_eq_true, Nat.zero_add, Nat.add_zero, and_true, true_and, or_false, Bool.not_true, Bool.not_false, and_self, wBin_add64, wBin_sub64, wIdx_slice, wIdx_array, wNilc_eq, Int.toNat_natCast, Nat.mul_one, Nat.zero_mul, wSt_agg, wSt_int, wSt_bool, wSt_string, wSt_slice, wSt_ptr, wSt_map, wSt_func, stP_cells, bit_one, bit_zero, bit_one', bit_zero', wBin_shr32, wBin_and1, wBin_rem2, wBin_andNot32, wBin_or32, wBin_and32, wBin_shl32, u32_eq_zero, u32_ne_zero, List.length_cons, List.length_nil, Nat.le_refl, Nat.reduceAdd, Nat.reduceMul, Nat.reduceLeDiff, Int.toNat_zero, Int.toNat_one, dBsl_none]
  refine wLoop_rule (fun m L H' nx' => ∃ (i : Nat) (v : Value) (zs : List ByteArray), m + i = l.length ∧ L = [v, .int .i64 (i : Int)] ∧ listOf vs (l.take i) = some zs ∧ AccL nx H' nx' v (strs zs) ∧ Ext H nx H' nx') ?_ (m := l.length) ⟨0, _, [], by omega, rfl, rfl, .inr ⟨rfl, nx, Nat.le_refl _, by omega, rfl, getH_same _ _ _⟩, (Ext.refl H nx).new _ (Nat.le_refl _) (by omega)⟩
  rintro m ih L H1 n1 ⟨i, v, zs, hm, rfl, hzs, hacc, hE⟩ hih
  simp (disch := first | omega | assumption | exact shr_lt (by assumption) | exact ndiff32 (by assumption) | exact below_lt (by omega) | fail) only [List.getD_cons_zero, List.getD_cons_succ, wBin_lss, wBin_leq, wBin_gtr, wBin_geq, wBin_eql, wBin_neq, wIf_bool, wGuard_true, wGuard_false, wPick_true, wPick_false, wUn_not, wFld_eq, wExt_eq, wPart_one, wPart_agg, wLen_slice, wLen_string, wNew_eq, wNm_eq, dBox_agg, dBox_int, dBox_slice, dBox_string, dBox_bool, dBox_map, dBox_ptr, oneCells, wLd_none, wLd_2, wLd_3, wLd_32, ldP_cells, ldP_rom, cellP_one, getH_same, getH_ne, forceV_eq, forceN_eq, hsK_eq, Option.elim_some, List.getElem?_cons_zero, List.getElem?_cons_succ, Yld.val, decide_true, decide_false, if_true, if_false, Bool.false_eq_true, Nat.zero_add, Nat.add_zero, and_true, true_and, or_false, Bool.not_true, Bool.not_false, and_self, wBin_add64, wBin_sub64, wIdx_slice, wIdx_array, wNilc_eq, Int.toNat_natCast, Nat.mul_one, Nat.zero_mul, wSt_agg, wSt_int, wSt_bool, wSt_string, wSt_slice, wSt_ptr, wSt_map, wSt_func, stP_cells, bit_one, bit_zero, bit_one', bit_zero', wBin_shr32, wBin_and1, wBin_rem2, wBin_andNot32, wBin_or32, wBin_and32, wBin_shl32, u32_eq_zero, u32_ne_zero, List.length_cons, List.length_nil, Nat.le_refl, Nat.reduceAdd, Nat.reduceMul, Nat.reduceLeDiff, Int.toNat_zero, Int.toNat_one]
  by_cases hi : i < l.length
  · have hi' : (i : Int) < (l.length : Int) := by omega
    obtain ⟨b, o, row, rfl, hb, hrow, hget⟩ := (hB.ext hE).open (i := i) (by rw [i64s_length]; exact hi)
    have hx : l[i]? = some l[i] := List.getElem?_eq_getElem hi
    generalize l[i] = x at hx
    have hmem : x ∈ l := List.mem_of_getElem? hx
    by_cases h1 : x < 0
    · simp (disch := first | omega | assumption | exact shr_lt (by assumption) | exact ndiff32 (by assumption) | exact below_lt (by omega) | fail) only [List.getD_cons_zero, List.getD_cons_succ, wBin_lss, wBin_leq, wBin_gtr, wBin_geq, wBin_eql, wBin_neq, wIf_bool, wGuard_true, wGuard_false, wPick_true, wPick_false, wUn_not, wFld_eq, wExt_eq, wPart_one, wPart_agg, wLen_slice, wLen_string, wNew_eq, wNm_eq, dBox_agg, dBox_int, dBox_slice, dBox_string, dBox_bool, dBox_map, dBox_ptr, oneCells, wLd_none, wLd_2, wLd_3, wLd_32, ldP_cells, ldP_rom, cellP_one, getH_same, getH_ne, forceV_eq, forceN_eq, hsK_eq, Option.elim_some, List.getElem?_cons_zero, List.getElem?_cons_succ, Yld.val, decide_true, decide_false, if_true, if_false, Bool.false_eq_true, Nat.zero_add, Nat.add_zero, and_true, true_and, or_false, Bool.not_true, Bool.not_false, and_self, wBin_add64, wBin_sub64, wIdx_slice, wIdx_array, wNilc_eq, Int.toNat_natCast, Nat.mul_one, Nat.zero_mul, wSt_agg, wSt_int, wSt_bool, wSt_string, wSt_slice, wSt_ptr, wSt_map, wSt_func, stP_cells, bit_one, bit_zero, bit_one', bit_zero', wBin_shr32, wBin_and1, wBin_rem2, wBin_andNot32, wBin_or32, wBin_and32, wBin_shl32, u32_eq_zero, u32_ne_zero, List.length_cons, List.length_nil, Nat.le_refl, Nat.reduceAdd, Nat.reduceMul, Nat.reduceLeDiff, Int.toNat_zero, Int.toNat_one, wJoin_eq, hi', ldP_row hrow, hget _ _ (i64s_get hx), h1]
      have hp : pick vs x = none := if_neg (by omega)
      have := listOf_bad hp hmem
      exact ⟨(fun zs h => by rw [this] at h; cases h), (by first | exact hE | exact ⟨fun _ => trivial, hE⟩)⟩
    · by_cases h2 : (vs.length : Int) ≤ x
      · simp (disch := first | omega | assumption | exact shr_lt (by assumption) | exact ndiff32 (by assumption) | exact below_lt (by omega) | fail) only [List.getD_cons_zero, List.getD_cons_succ, wBin_lss, wBin_leq, wBin_gtr, wBin_geq, wBin_eql, wBin_neq, wIf_bool, wGuard_true, wGuard_false, wPick_true, wPick_false, wUn_not, wFld_eq, wExt_eq, wPart_one, wPart_agg, wLen_slice, wLen_string, wNew_eq, wNm_eq, dBox_agg, dBox_int, dBox_slice, dBox_string, dBox_bool, dBox_map, dBox_ptr, oneCells, wLd_none, wLd_2, wLd_3, wLd_32, ldP_cells, ldP_rom, cellP_one, getH_same, getH_ne, forceV_eq, forceN_eq, hsK_eq, Option.elim_some, List.getElem?_cons_zero, List.getElem?_cons_succ, Yld.val, decide_true, decide_false, if_true, if_false, Bool.false_eq_true, Nat.zero_add, Nat.add_zero, and_true, true_and, or_false, Bool.not_true, Bool.not_false, and_self, wBin_add64, wBin_sub64, wIdx_slice, wIdx_array, wNilc_eq, Int.toNat_natCast, Nat.mul_one, Nat.zero_mul, wSt_agg, wSt_int, wSt_bool, wSt_string, wSt_slice, wSt_ptr, wSt_map, wSt_func, stP_cells, bit_one, bit_zero, bit_one', bit_zero', wBin_shr32, wBin_and1, wBin_rem2, wBin_andNot32, wBin_or32, wBin_and32, wBin_shl32, u32_eq_zero, u32_ne_zero, List.length_cons, List.length_nil, Nat.le_refl, Nat.reduceAdd, Nat.reduceMul, Nat.reduceLeDiff, Int.toNat_zero, Int.toNat_one, wJoin_eq, hi', ldP_row hrow, hget _ _ (i64s_get hx), h1, h2]
        have hp : pick vs x = none := by
          unfold pick
          rw [if_pos (by omega), List.getElem?_eq_none (by omega)]
        have := listOf_bad hp hmem
        exact ⟨(fun zs h => by rw [this] at h; cases h), (by first | exact hE | exact ⟨fun _ => trivial, hE⟩)⟩
      · obtain ⟨b2, o2, row2, rfl, hb2, hrow2, hget2⟩ := (hS.ext hE).open (i := x.toNat) (by rw [strs_length]; omega)
        have hz : vs[x.toNat]? = some (vs[x.toNat]'(by omega)) := List.getElem?_eq_getElem (by omega)
        generalize (vs[x.toNat]'(by omega)) = z at hz
        have hp : pick vs x = some z := by unfold pick; rw [if_pos (by omega), hz]
        simp (disch := first | omega | assumption | exact shr_lt (by assumption) | exact ndiff32 (by assumption) | exact below_lt (by omega) | fail) only [List.getD_cons_zero, List.getD_cons_succ, wBin_lss, wBin_leq, wBin_gtr, wBin_geq, wBin_eql, wBin_neq, wIf_bool, wGuard_true, wGuard_false, wPick_true, wPick_false, wUn_not, wFld_eq, wExt_eq, wPart_one, wPart_agg, wLen_slice, wLen_string, wNew_eq, wNm_eq, dBox_agg, dBox_int, dBox_slice, dBox_string, dBox_bool, dBox_map, dBox_ptr, oneCells, wLd_none, wLd_2, wLd_3, wLd_32, ldP_cells, ldP_rom, cellP_one, getH_same, getH_ne, forceV_eq, forceN_eq, hsK_eq, Option.elim_some, List.getElem?_cons_zero, List.getElem?_cons_succ, Yld.val, decide_true, decide_false, if_true, if_false, Bool.false_eq_true, Nat.zero_add, Nat.add_zero, and_true, true_and, or_false, Bool.not_true, Bool.not_false, and_self, wBin_add64, wBin_sub64, wIdx_slice, wIdx_array, wNilc_eq, Int.toNat_natCast, Nat.mul_one, Nat.zero_mul, wSt_agg, wSt_int, wSt_bool, wSt_string, wSt_slice, wSt_ptr, wSt_map, wSt_func, stP_cells, bit_one, bit_zero, bit_one', bit_zero', wBin_shr32, wBin_and1, wBin_rem2, wBin_andNot32, wBin_or32, wBin_and32, wBin_shl32, u32_eq_zero, u32_ne_zero, List.length_cons, List.length_nil, Nat.le_refl, Nat.reduceAdd, Nat.reduceMul, Nat.reduceLeDiff, Int.toNat_zero, Int.toNat_one, wJoin_eq, hi', ldP_row hrow, hget _ _ (i64s_get hx), h1, h2, ldP_row hrow2, hget2 _ _ (strs_get hz), dBsl_str]
        have hE2 : Ext H nx (hs H1 n1 (some (.cells [.string z] 0))) (n1 + 1) := hE.new _ hE.le (by omega)
        refine wApp_accL (hacc.ext ((Ext.refl H1 n1).new _ (Nat.le_refl _) (by omega))) (src_new (getH_same _ _ _) rfl (by omega)) rfl (by omega) (by rw [strs_length, listOf_length hzs, List.length_take]; omega) hE2 (by have := hE.le; omega) ?_
        intro v' H' hacc' hE' _
        refine hih (m - 1) _ _ _ (by omega) ⟨i + 1, v', zs ++ [z], by omega, by simp, ?_, by simpa [strs] using hacc', hE'⟩
        rw [List.take_add_one, hx]
        exact listOf_snoc hp hzs
  · have hi' : ¬ (i : Int) < (l.length : Int) := by omega
    simp (disch := first | omega | assumption | exact shr_lt (by assumption) | exact ndiff32 (by assumption) | exact below_lt (by omega) | fail) only [List.getD_cons_zero, List.getD_cons_succ, wBin_lss, wBin_leq, wBin_gtr, wBin_geq, wBin_eql, wBin_neq, wIf_bool, wGuard_true, wGuard_false, wPick_true, wPick_false, wUn_not, wFld_eq, wExt_eq, wPart_one, wPart_agg, wLen_slice, wLen_string, wNew_eq, wNm_eq, dBox_agg, dBox_int, dBox_slice, dBox_string, dBox_bool, dBox_map, dBox_ptr, oneCells, wLd_none, wLd_2, wLd_3, wLd_32, ldP_cells, ldP_rom, cellP_one, getH_same, getH_ne, forceV_eq, forceN_eq, hsK_eq, Option.elim_some, List.getElem?_cons_zero, List.getElem?_cons_succ, Yld.val, decide_true, decide_false, if_true, if_false, Bool.false_eq_true, Nat.zero_add, Nat.add_zero, and_true, true_and, or_false, Bool.not_true, Bool.not_false, and_self, wBin_add64, wBin_sub64, wIdx_slice, wIdx_array, wNilc_eq, Int.toNat_natCast, Nat.mul_one, Nat.zero_mul, wSt_agg, wSt_int, wSt_bool, wSt_string, wSt_slice, wSt_ptr, wSt_map, wSt_func, stP_cells, bit_one, bit_zero, bit_one', bit_zero', wBin_shr32, wBin_and1, wBin_rem2, wBin_andNot32, wBin_or32, wBin_and32, wBin_shl32, u32_eq_zero, u32_ne_zero, List.length_cons, List.length_nil, Nat.le_refl, Nat.reduceAdd, Nat.reduceMul, Nat.reduceLeDiff, Int.toNat_zero, Int.toNat_one, hi']
    rw [List.take_of_length_le (by omega)] at hzs
    exact ⟨(fun zs' h => by rw [hzs] at h; cases h; exact ⟨_, rfl, hacc⟩), (fun h => by rw [hzs] at h; cases h), hE⟩

/-! Text. -/
theorem wBin_stradd (a b : ByteArray) (h : a.size + b.size ≤ 1000000) (k : VP) : wBin .add (.string a) (.string b) k = k (.string (a ++ b)) := by
  rw [wBin_eq]
  have : ¬ (((a.size + b.size : Nat) : Int) > IntKind.i64.max) := by
    have : IntKind.i64.max = 9223372036854775807 := by decide
    omega
  simp only [binV, strV, if_neg this, Option.elim_some]
def sp : ByteArray := ⟨#[32]⟩
/-- Each part after a blank. -/
def catS (zs : List ByteArray) : ByteArray := zs.foldl (fun s z => s ++ sp ++ z) ⟨#[]⟩
theorem catS_snoc (zs : List ByteArray) (z : ByteArray) : catS (zs ++ [z]) = catS zs ++ sp ++ z := by simp [catS, List.foldl_append]
theorem catS_size (zs : List ByteArray) (h : ∀ z ∈ zs, z.size ≤ 60) : (catS zs).size ≤ 61 * zs.length := by
  have : ∀ (zs : List ByteArray) (s : ByteArray), (∀ z ∈ zs, z.size ≤ 60) → (zs.foldl (fun s z => s ++ sp ++ z) s).size ≤ s.size + 61 * zs.length := by
    intro zs
    induction zs with
    | nil => intro s _; simp
    | cons z zs ih =>
      intro s h
      have h1 := ih (s ++ sp ++ z) fun y hy => h y (List.mem_cons_of_mem _ hy)
      have h2 := h z (by simp)
      have h3 : (s ++ sp ++ z).size = s.size + 1 + z.size := by rw [ByteArray.size_append, ByteArray.size_append]; rfl
      simp only [List.foldl_cons, List.length_cons]
      omega
  have := this zs ⟨#[]⟩ h
  have e : (⟨#[]⟩ : ByteArray).size = 0 := rfl
  unfold catS
  omega
theorem catS_data (zs : List ByteArray) : (catS zs).data.toList = Lib.joinTail [32] (zs.map (·.data.toList)) := by
  have : ∀ (zs : List ByteArray) (s : ByteArray), (zs.foldl (fun s z => s ++ sp ++ z) s).data.toList = s.data.toList ++ Lib.joinTail [32] (zs.map (·.data.toList)) := by
    intro zs
    induction zs with
    | nil => intro s; simp [Lib.joinTail]
    | cons z zs ih =>
      intro s
      rw [List.foldl_cons, ih]
      have e : (s ++ sp ++ z).data.toList = s.data.toList ++ [32] ++ z.data.toList := by
        rw [ByteArray.data_append, ByteArray.data_append]; simp [sp]
      rw [e]
      simp [Lib.joinTail]
  rw [catS, this]; simp
theorem join_cat (w : ByteArray) (zs : List ByteArray) : joinS (w :: zs) sp = w ++ catS zs := by
  apply bytes_eq
  rw [ByteArray.toList_eq, ByteArray.toList_eq, ByteArray.data_append, Array.toList_append, catS_data]
  simp only [joinS, List.map_cons, Lib.join_cons, List.toList_toArray]
  rfl

theorem joined17 (f : ByteArray) (lo : Nat) (v : Value) (zs : List ByteArray) (H : Heap) (nx : Nat) (hacc : AccL lo H nx v (strs zs)) (hz : ∀ z ∈ zs, z.size ≤ 60) (hf : f.size ≤ 60) (hl : zs.length ≤ 1000) : Ans Tryd.prog 17 [.string f, v] H nx fun r H' nx' => .string (f ++ catS zs) = r ∧ Ext H nx H' nx' := by
  refine spec17 ?_
  unfold F17
  obtain ⟨A, rfl, hS, hA0⟩ := hacc.sl
  have hX : Ext H nx (hs H nx (some (.cells [.string f] 0))) (nx + 1) := (Ext.refl H nx).new _ (Nat.le_refl _) (by omega)
  have hsize : (joinS (f :: zs) sp).size ≤ 1000000 := by
    rw [join_cat, ByteArray.size_append]
    have := catS_size zs hz
    omega
  simp (disch := first | omega | assumption | exact shr_lt (by assumption) | exact ndiff32 (by assumption) | exact below_lt (by omega) | fail) only [List.getD_cons_zero, List.getD_cons_succ, wBin_lss, wBin_leq, wBin_gtr, wBin_geq, wBin_eql, wBin_neq, wIf_bool, wGuard_true, wGuard_false, wPick_true, wPick_false, wUn_not, wFld_eq, wExt_eq, wPart_one, wPart_agg, wLen_slice, wLen_string, wNew_eq, wNm_eq, dBox_agg, dBox_int, dBox_slice, dBox_string, dBox_bool, dBox_map, dBox_ptr, oneCells, wLd_none, wLd_2, wLd_3, wLd_32, ldP_cells, ldP_rom, cellP_one, getH_same, getH_ne, forceV_eq, forceN_eq, hsK_eq, Option.elim_some, List.getElem?_cons_zero, List.getElem?_cons_succ, Yld.val, decide_true, decide_false, if_true, if_false, Bool.false_eq_true, Nat.zero_add, Nat.add_zero, and_true, true_and, or_false, Bool.not_true, Bool.not_false, and_self, wBin_add64, wBin_sub64, wIdx_slice, wIdx_array, wNilc_eq, Int.toNat_natCast, Nat.mul_one, Nat.zero_mul, wSt_agg, wSt_int, wSt_bool, wSt_string, wSt_slice, wSt_ptr, wSt_map, wSt_func, stP_cells, bit_one, bit_zero, bit_one', bit_zero', wBin_shr32, wBin_and1, wBin_rem2, wBin_andNot32, wBin_or32, wBin_and32, wBin_shl32, u32_eq_zero, u32_ne_zero, List.length_cons, List.length_nil, Nat.le_refl, Nat.reduceAdd, Nat.reduceMul, Nat.reduceLeDiff, Int.toNat_zero, Int.toNat_one, dBsl_str]
  have hsrc : Src (hs H nx (some (.cells [.string f] 0))) 1 (.slice A (strs zs).length (strs zs).length) (strs zs).length (strs zs) := src_any (hS.ext hX) (hA0.ext hX) (by simp) (by omega)
  by_cases h0 : zs = []
  · subst h0
    have hsrc' : Src (hs H nx (some (.cells [.string f] 0))) 1 (.slice A (strs []).length (strs []).length) 0 [] := hsrc
    rw [wApp_lit0 (getH_same _ _ _) (by rfl) hsrc' (by omega) (by omega)]
    refine wCall_rule (join33 _ [f] sp 1 _ _ (fun i u hu => ⟨nx, 0, [.string f], rfl, Nat.lt_succ_self _, by simp [rowOf, getH_same, Blk.row], by simpa [strs] using hu⟩) (by simp) (by simp) (by simp) hsize) ?_
    rintro _ _ _ ⟨rfl, rfl, rfl⟩
    exact ⟨by rw [join_cat], hX.hs (Nat.le_refl _)⟩
  · have hpos : 0 < (strs zs).length := by rw [strs_length]; exact List.length_pos_iff.2 h0
    have hlen := strs_length zs
    rw [wApp_lit (by omega) (getH_same _ _ _) (by rfl) hsrc hpos (oneCells_strs zs) (by omega) (by omega)]
    have e1 : 1 + (strs zs).length = (f :: zs).length := by rw [strs_length, List.length_cons]; omega
    have e2 : [Value.string f] ++ strs zs = strs (f :: zs) := rfl
    rw [e1, e2]
    refine wCall_rule (join33 _ (f :: zs) sp _ _ _ (fun i u hu => ⟨nx + 1, 0, strs (f :: zs), rfl, Nat.lt_succ_self _, by simp [rowOf, getH_same, Blk.row], by simpa using hu⟩) (by simp) (Nat.le_refl _) (by simp; omega) hsize) ?_
    rintro _ _ _ ⟨rfl, rfl, rfl⟩
    exact ⟨by rw [join_cat], hX.new _ (by omega) (by omega)⟩

set_option maxHeartbeats 1000000 in
theorem list19 (A B : Option Addr) (vs : List ByteArray) (l : List Int) (capA capB : Nat) (H : Heap) (nx : Nat) (hS : Sl H nx A (strs vs)) (hB : Sl H nx B (i64s l)) (hv : Short vs) (hl : l.length ≤ 1000) : Ans Tryd.prog 19 [.slice A vs.length capA, .slice B l.length capB] H nx fun r H' nx' => (∀ zs, listOf vs l = some zs → .tuple ⟨[.string (catS zs), .int .i64 0]⟩ = r) ∧ (listOf vs l = none → .tuple ⟨[.string ⟨#[]⟩, .int .i64 3]⟩ = r) ∧ H = H' ∧ nx = nx' := by
  refine spec19 ?_
  unfold F19
  refine wLoop_rule (fun m L H' nx' => ∃ (i : Nat) (zs : List ByteArray), m + i = l.length ∧ L = [.string (catS zs), .int .i64 (i : Int)] ∧ listOf vs (l.take i) = some zs ∧ H = H' ∧ nx = nx') ?_ (m := l.length) ⟨0, [], by omega, rfl, rfl, rfl, rfl⟩
  rintro m ih L _ _ ⟨i, zs, hm, rfl, hzs, rfl, rfl⟩ hih
  simp (disch := first | omega | assumption | exact shr_lt (by assumption) | exact ndiff32 (by assumption) | exact below_lt (by omega) | fail) only [List.getD_cons_zero, List.getD_cons_succ, wBin_lss, wBin_leq, wBin_gtr, wBin_geq, wBin_eql, wBin_neq, wIf_bool, wGuard_true, wGuard_false, wPick_true, wPick_false, wUn_not, wFld_eq, wExt_eq, wPart_one, wPart_agg, wLen_slice, wLen_string, wNew_eq, wNm_eq, dBox_agg, dBox_int, dBox_slice, dBox_string, dBox_bool, dBox_map, dBox_ptr, oneCells, wLd_none, wLd_2, wLd_3, wLd_32, ldP_cells, ldP_rom, cellP_one, getH_same, getH_ne, forceV_eq, forceN_eq, hsK_eq, Option.elim_some, List.getElem?_cons_zero, List.getElem?_cons_succ, Yld.val, decide_true, decide_false, if_true, if_false, Bool.false_eq_true, Nat.zero_add, Nat.add_zero, and_true, true_and, or_false, Bool.not_true, Bool.not_false, and_self, wBin_add64, wBin_sub64, wIdx_slice, wIdx_array, wNilc_eq, Int.toNat_natCast, Nat.mul_one, Nat.zero_mul, wSt_agg, wSt_int, wSt_bool, wSt_string, wSt_slice, wSt_ptr, wSt_map, wSt_func, stP_cells, bit_one, bit_zero, bit_one', bit_zero', wBin_shr32, wBin_and1, wBin_rem2, wBin_andNot32, wBin_or32, wBin_and32, wBin_shl32, u32_eq_zero, u32_ne_zero, List.length_cons, List.length_nil, Nat.le_refl, Nat.reduceAdd, Nat.reduceMul, Nat.reduceLeDiff, Int.toNat_zero, Int.toNat_one]
  by_cases hi : i < l.length
  · have hi' : (i : Int) < (l.length : Int) := by omega
    obtain ⟨b, o, row, rfl, hb, hrow, hget⟩ := hB.open (i := i) (by rw [i64s_length]; exact hi)
    have hx : l[i]? = some l[i] := List.getElem?_eq_getElem hi
    generalize l[i] = x at hx
    have hmem : x ∈ l := List.mem_of_getElem? hx
    by_cases h1 : x < 0
    · simp (disch := first | omega | assumption | exact shr_lt (by assumption) | exact ndiff32 (by assumption) | exact below_lt (by omega) | fail) only [List.getD_cons_zero, List.getD_cons_succ, wBin_lss, wBin_leq, wBin_gtr, wBin_geq, wBin_eql, wBin_neq, wIf_bool, wGuard_true, wGuard_false, wPick_true, wPick_false, wUn_not, wFld_eq, wExt_eq, wPart_one, wPart_agg, wLen_slice, wLen_string, wNew_eq, wNm_eq, dBox_agg, dBox_int, dBox_slice, dBox_string, dBox_bool, dBox_map, dBox_ptr, oneCells, wLd_none, wLd_2, wLd_3, wLd_32, ldP_cells, ldP_rom, cellP_one, getH_same, getH_ne, forceV_eq, forceN_eq, hsK_eq, Option.elim_some, List.getElem?_cons_zero, List.getElem?_cons_succ, Yld.val, decide_true, decide_false, if_true, if_false, Bool.false_eq_true, Nat.zero_add, Nat.add_zero, and_true, true_and, or_false, Bool.not_true, Bool.not_false, and_self, wBin_add64, wBin_sub64, wIdx_slice, wIdx_array, wNilc_eq, Int.toNat_natCast, Nat.mul_one, Nat.zero_mul, wSt_agg, wSt_int, wSt_bool, wSt_string, wSt_slice, wSt_ptr, wSt_map, wSt_func, stP_cells, bit_one, bit_zero, bit_one', bit_zero', wBin_shr32, wBin_and1, wBin_rem2, wBin_andNot32, wBin_or32, wBin_and32, wBin_shl32, u32_eq_zero, u32_ne_zero, List.length_cons, List.length_nil, Nat.le_refl, Nat.reduceAdd, Nat.reduceMul, Nat.reduceLeDiff, Int.toNat_zero, Int.toNat_one, wJoin_eq, hi', ldP_row hrow, hget _ _ (i64s_get hx), h1]
      have hp : pick vs x = none := if_neg (by omega)
      have := listOf_bad hp hmem
      exact ⟨(fun zs h => by rw [this] at h; cases h), fun _ => trivial⟩
    · by_cases h2 : (vs.length : Int) ≤ x
      · simp (disch := first | omega | assumption | exact shr_lt (by assumption) | exact ndiff32 (by assumption) | exact below_lt (by omega) | fail) only [List.getD_cons_zero, List.getD_cons_succ, wBin_lss, wBin_leq, wBin_gtr, wBin_geq, wBin_eql, wBin_neq, wIf_bool, wGuard_true, wGuard_false, wPick_true, wPick_false, wUn_not, wFld_eq, wExt_eq, wPart_one, wPart_agg, wLen_slice, wLen_string, wNew_eq, wNm_eq, dBox_agg, dBox_int, dBox_slice, dBox_string, dBox_bool, dBox_map, dBox_ptr, oneCells, wLd_none, wLd_2, wLd_3, wLd_32, ldP_cells, ldP_rom, cellP_one, getH_same, getH_ne, forceV_eq, forceN_eq, hsK_eq, Option.elim_some, List.getElem?_cons_zero, List.getElem?_cons_succ, Yld.val, decide_true, decide_false, if_true, if_false, Bool.false_eq_true, Nat.zero_add, Nat.add_zero, and_true, true_and, or_false, Bool.not_true, Bool.not_false, and_self, wBin_add64, wBin_sub64, wIdx_slice, wIdx_array, wNilc_eq, Int.toNat_natCast, Nat.mul_one, Nat.zero_mul, wSt_agg, wSt_int, wSt_bool, wSt_string, wSt_slice, wSt_ptr, wSt_map, wSt_func, stP_cells, bit_one, bit_zero, bit_one', bit_zero', wBin_shr32, wBin_and1, wBin_rem2, wBin_andNot32, wBin_or32, wBin_and32, wBin_shl32, u32_eq_zero, u32_ne_zero, List.length_cons, List.length_nil, Nat.le_refl, Nat.reduceAdd, Nat.reduceMul, Nat.reduceLeDiff, Int.toNat_zero, Int.toNat_one, wJoin_eq, hi', ldP_row hrow, hget _ _ (i64s_get hx), h1, h2]
        have hp : pick vs x = none := by
          unfold pick
          rw [if_pos (by omega), List.getElem?_eq_none (by omega)]
        have := listOf_bad hp hmem
        exact ⟨(fun zs h => by rw [this] at h; cases h), fun _ => trivial⟩
      · obtain ⟨b2, o2, row2, rfl, hb2, hrow2, hget2⟩ := hS.open (i := x.toNat) (by rw [strs_length]; omega)
        have hz : vs[x.toNat]? = some (vs[x.toNat]'(by omega)) := List.getElem?_eq_getElem (by omega)
        generalize (vs[x.toNat]'(by omega)) = z at hz
        have hp : pick vs x = some z := by unfold pick; rw [if_pos (by omega), hz]
        have hz60 := hv.get hz
        have hcs := catS_size zs fun y hy => hv y (listOf_mem hzs y hy)
        rw [listOf_length hzs, List.length_take] at hcs
        have a1 := fun k => wBin_stradd (catS zs) sp (by have : sp.size = 1 := rfl; omega) k
        have a2 := fun k => wBin_stradd (catS zs ++ sp) z (by rw [ByteArray.size_append]; have : sp.size = 1 := rfl; omega) k
        have e : (⟨#[32]⟩ : ByteArray) = sp := rfl
        simp (disch := first | omega | assumption | exact shr_lt (by assumption) | exact ndiff32 (by assumption) | exact below_lt (by omega) | fail) only [List.getD_cons_zero, List.getD_cons_succ, wBin_lss, wBin_leq, wBin_gtr, wBin_geq, wBin_eql, wBin_neq, wIf_bool, wGuard_true, wGuard_false, wPick_true, wPick_false, wUn_not, wFld_eq, wExt_eq, wPart_one, wPart_agg, wLen_slice, wLen_string, wNew_eq, wNm_eq, dBox_agg, dBox_int, dBox_slice, dBox_string, dBox_bool, dBox_map, dBox_ptr, oneCells, wLd_none, wLd_2, wLd_3, wLd_32, ldP_cells, ldP_rom, cellP_one, getH_same, getH_ne, forceV_eq, forceN_eq, hsK_eq, Option.elim_some, List.getElem?_cons_zero, List.getElem?_cons_succ, Yld.val, decide_true, decide_false, if_true, if_false, Bool.false_eq_true, Nat.zero_add, Nat.add_zero, and_true, true_and, or_false, Bool.not_true, Bool.not_false, and_self, wBin_add64, wBin_sub64, wIdx_slice, wIdx_array, wNilc_eq, Int.toNat_natCast, Nat.mul_one, Nat.zero_mul, wSt_agg, wSt_int, wSt_bool, wSt_string, wSt_slice, wSt_ptr, wSt_map, wSt_func, stP_cells, bit_one, bit_zero, bit_one', bit_zero', wBin_shr32, wBin_and1, wBin_rem2, wBin_andNot32, wBin_or32, wBin_and32, wBin_shl32, u32_eq_zero, u32_ne_zero, List.length_cons, List.length_nil, Nat.le_refl, Nat.reduceAdd, Nat.reduceMul, Nat.reduceLeDiff, Int.toNat_zero, Int.toNat_one, wJoin_eq, hi', ldP_row hrow, hget _ _ (i64s_get hx), h1, h2, ldP_row hrow2, hget2 _ _ (strs_get hz), e, a1, a2]
        refine hih (m - 1) _ _ _ (by omega) ⟨i + 1, zs ++ [z], by omega, by simp [catS_snoc], ?_, rfl, rfl⟩
        rw [List.take_add_one, hx]
        exact listOf_snoc hp hzs
  · have hi' : ¬ (i : Int) < (l.length : Int) := by omega
    simp (disch := first | omega | assumption | exact shr_lt (by assumption) | exact ndiff32 (by assumption) | exact below_lt (by omega) | fail) only [List.getD_cons_zero, List.getD_cons_succ, wBin_lss, wBin_leq, wBin_gtr, wBin_geq, wBin_eql, wBin_neq, wIf_bool, wGuard_true, wGuard_false, wPick_true, wPick_false, wUn_not, wFld_eq, wExt_eq, wPart_one, wPart_agg, wLen_slice, wLen_string, wNew_eq, wNm_eq, dBox_agg, dBox_int, dBox_slice, dBox_string, dBox_bool, dBox_map, dBox_ptr, oneCells, wLd_none, wLd_2, wLd_3, wLd_32, ldP_cells, ldP_rom, cellP_one, getH_same, getH_ne, forceV_eq, forceN_eq, hsK_eq, Option.elim_some, List.getElem?_cons_zero, List.getElem?_cons_succ, Yld.val, decide_true, decide_false, if_true, if_false, Bool.false_eq_true, Nat.zero_add, Nat.add_zero, and_true, true_and, or_false, Bool.not_true, Bool.not_false, and_self, wBin_add64, wBin_sub64, wIdx_slice, wIdx_array, wNilc_eq, Int.toNat_natCast, Nat.mul_one, Nat.zero_mul, wSt_agg, wSt_int, wSt_bool, wSt_string, wSt_slice, wSt_ptr, wSt_map, wSt_func, stP_cells, bit_one, bit_zero, bit_one', bit_zero', wBin_shr32, wBin_and1, wBin_rem2, wBin_andNot32, wBin_or32, wBin_and32, wBin_shl32, u32_eq_zero, u32_ne_zero, List.length_cons, List.length_nil, Nat.le_refl, Nat.reduceAdd, Nat.reduceMul, Nat.reduceLeDiff, Int.toNat_zero, Int.toNat_one, hi']
    rw [List.take_of_length_le (by omega)] at hzs
    exact ⟨(fun zs' h => by rw [hzs] at h; cases h; rfl), (fun h => by rw [hzs] at h; cases h)⟩
end Go.Proofs.YtjpgddpobnjmkaaDoor
