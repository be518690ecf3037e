/-
  Contract: the program's Bags.
  Plain: the bags of an elimination pass Check.
  The law EliminationBags: it returns true.
-/
import Derived.Test.YtaieijjfabbfeaaTC
import Derived.Test.YtaieijjfabbfeaaGF
set_option linter.unusedSimpArgs false
set_option linter.unusedVariables false
set_option linter.unusedSectionVars false
namespace Go.Proofs.Ytaieijjfabbfeaa
open Go.Clo

theorem zeros64 : [Value.int .i64 0, .int .i64 0, .int .i64 0, .int .i64 0, .int .i64 0, .int .i64 0, .int .i64 0, .int .i64 0, .int .i64 0, .int .i64 0, .int .i64 0, .int .i64 0, .int .i64 0, .int .i64 0, .int .i64 0, .int .i64 0, .int .i64 0, .int .i64 0, .int .i64 0, .int .i64 0, .int .i64 0, .int .i64 0, .int .i64 0, .int .i64 0, .int .i64 0, .int .i64 0, .int .i64 0, .int .i64 0, .int .i64 0, .int .i64 0, .int .i64 0, .int .i64 0] = i64s (List.replicate 32 0) := rfl
theorem slA_all (b : Nat) (k : VP) : wSlA (.pointer (some ⟨b, 0, none⟩)) 32 1 none none none k = k (.slice (some ⟨b, 0, none⟩) 32 32) := by
  have e : sliceA (some ⟨b, 0, none⟩) 32 32 1 none none none false = some (.slice (some ⟨b, 0, none⟩) 32 32) := rfl
  unfold wSlA
  simp only [e, force1_eq]
theorem copy_i64s {l : List Int} (h : l.length ≤ 32) : putL (i64s (List.replicate 32 0)) 0 (i64s l) = i64s (l ++ List.replicate (32 - l.length) 0) := by
  simp only [putL, i64s, List.map_replicate, List.take_zero, List.nil_append, List.drop_replicate, List.map_append, List.length_map, Nat.zero_add]

theorem downTo_get {f : Nat} : ∀ {m i : Nat}, i < m → (downTo f m)[i]? = some ((f : Int) - 1 - i)
  | 0, i, h => by omega
  | m + 1, i, h => by
    unfold downTo
    by_cases hi : i < m
    · rw [List.getElem?_append_left (by rw [downTo_length]; exact hi)]; exact downTo_get hi
    · have : i = m := by omega
      subst this
      rw [List.getElem?_append_right (by rw [downTo_length]; omega), downTo_length]; simp
theorem downTo_mem {f : Nat} : ∀ {m : Nat} {x : Int}, x ∈ downTo f m → ∃ i : Nat, i < m ∧ x = (f : Int) - 1 - i
  | 0, x, h => by simp [downTo] at h
  | m + 1, x, h => by
    unfold downTo at h
    simp only [List.mem_append, List.mem_singleton] at h
    rcases h with h | h
    · obtain ⟨i, hi, e⟩ := downTo_mem h; exact ⟨i, by omega, e⟩
    · exact ⟨m, by omega, h⟩
theorem downTo_nodup {f : Nat} : ∀ m : Nat, (downTo f m).Nodup
  | 0 => by simp [downTo]
  | m + 1 => nodup_snoc (downTo_nodup m) fun h => by obtain ⟨i, hi, e⟩ := downTo_mem h; omega
theorem nodup_toNat : ∀ {l : List Int}, (∀ x ∈ l, 0 ≤ x) → l.Nodup → (l.map Int.toNat).Nodup
  | [], _, _ => by simp
  | x :: l, h0, h => by
    rw [List.nodup_cons] at h
    rw [List.map_cons, List.nodup_cons]
    refine ⟨fun hm => ?_, nodup_toNat (fun y hy => h0 y (List.mem_cons_of_mem _ hy)) h.2⟩
    obtain ⟨y, hy, e⟩ := List.mem_map.mp hm
    have h1 := h0 x List.mem_cons_self
    have h2 := h0 y (List.mem_cons_of_mem _ hy)
    have : y = x := by omega
    subst this
    exact h.1 hy
theorem perm_order {l : List Int} {f n : Nat} (h : permOK l f n) : ∃ order : List Nat, (l ++ downTo f f = order.map fun (w : Nat) => (w : Int)) ∧ order.Nodup ∧ (∀ w ∈ order, w < n) ∧ order.length = n := by
  obtain ⟨h1, h2, h3⟩ := h
  have hall : ∀ x ∈ l ++ downTo f f, 0 ≤ x ∧ x < n := by
    intro x hx
    rcases List.mem_append.mp hx with hx | hx
    · have := h2 x hx; omega
    · obtain ⟨i, hi, e⟩ := downTo_mem hx; omega
  refine ⟨(l ++ downTo f f).map Int.toNat, ?_, nodup_toNat (fun x hx => (hall x hx).1) ?_, ?_, ?_⟩
  · rw [List.map_map]
    conv => lhs; rw [← List.map_id (l ++ downTo f f)]
    exact List.map_congr_left fun x hx => by have := (hall x hx).1; simp; omega
  · rw [List.nodup_append]
    exact ⟨h3, downTo_nodup f, fun a ha b hb e => by
      subst e
      have := h2 a ha
      obtain ⟨i, hi, e⟩ := downTo_mem hb; omega⟩
  · intro w hw
    obtain ⟨x, hx, rfl⟩ := List.mem_map.mp hw
    have := hall x hx; omega
  · simp [downTo_length]; omega

theorem order_all {order : List Nat} {n w : Nat} (hnd : order.Nodup) (hlt : ∀ w ∈ order, w < n) (hlen : order.length = n) (hw : w < n) : w ∈ order := by
  refine Classical.byContradiction fun h => ?_
  have h1 : (w :: order).Nodup := List.nodup_cons.mpr ⟨h, hnd⟩
  have h2 := List.Nodup.length_le_of_subset (l₂ := List.range n) h1 fun x hx => by
    rw [List.mem_range]
    rcases List.mem_cons.mp hx with rfl | hx
    · exact hw
    · exact hlt x hx
  simp at h2; omega

/-- The result of a refusal. -/
def refuse (c : Int) : Value := .tuple ⟨[.slice none 0 0, .int .i64 c]⟩

structure M13 (K : Heap) (top a o : Nat) (near : List Nat) (out : List Bag) (H : Heap) : Prop where
  near : getH H a = some (.cells (u32s near) 0)
  out : getH H o = some (.cells (bagsC out) 0)
  same : ∀ q, q < top → q ≠ a → q ≠ o → getH H q = getH K q
theorem M13.setNear {K : Heap} {top a o : Nat} {near : List Nat} {out : List Bag} {H : Heap} (h : M13 K top a o near out H) (hao : a ≠ o) (l : List Nat) : M13 K top a o l out (hs H a (some (.cells (u32s l) 0))) :=
  ⟨getH_same _ _ _, by rw [getH_ne _ (by omega)]; exact h.out, fun q h0 h1 h2 => by rw [getH_ne _ h1]; exact h.same q h0 h1 h2⟩
theorem M13.setOut {K : Heap} {top a o : Nat} {near : List Nat} {out : List Bag} {H : Heap} (h : M13 K top a o near out H) (hao : a ≠ o) (l : List Bag) : M13 K top a o near l (hs H o (some (.cells (bagsC l) 0))) :=
  ⟨by rw [getH_ne _ hao]; exact h.near, getH_same _ _ _, fun q h0 h1 h2 => by rw [getH_ne _ h2]; exact h.same q h0 h1 h2⟩
theorem M13.setNew {K : Heap} {top a o : Nat} {near : List Nat} {out : List Bag} {H : Heap} (h : M13 K top a o near out H) {q : Nat} (hq : top ≤ q) (ha : a < top) (ho : o < top) (b : Option Blk) : M13 K top a o near out (hs H q b) :=
  ⟨by rw [getH_ne _ (by omega)]; exact h.near, by rw [getH_ne _ (by omega)]; exact h.out, fun r h0 h1 h2 => by rw [getH_ne _ (by omega)]; exact h.same r h0 h1 h2⟩

set_option maxHeartbeats 8000000 in
theorem bags13 (N0 free : Int) (A : Option Addr) (es : List Nat) (cap : Nat) (P : Option Addr) (l : List Int) (capP : Nat) (H : Heap) (nx : Nat) (hS : Sl H nx A (u32s es)) (hsm : Small es)
    (hP : Sl H nx P (i64s l)) (hP0 : Has H nx P) (hl : l.length ≤ 40) :
    Ans Try.prog 13 [gv N0 A es.length cap, .int .i64 free, .slice P l.length capP] H nx fun r H' nx' => Ext H nx H' nx' ∧
      ((fcode N0 free es ≠ 0 ∧ r = refuse (fcode N0 free es)) ∨ (∃ n f : Nat, N0 = n ∧ free = f ∧ f ≤ n ∧ n ≤ 32 ∧ fcode N0 free es = 0 ∧
        ((¬ permOK l f n ∧ r = refuse 1) ∨ (permOK l f n ∧ ∃ order : List Nat, (l ++ downTo f f = order.map fun (w : Nat) => (w : Int)) ∧ order.Nodup ∧ (∀ w ∈ order, w < n) ∧ order.length = n ∧
          ∃ R, r = .tuple ⟨[.slice R n n, .int .i64 0]⟩ ∧ Sl H' nx' R (bagsC (outs n (List.replicate n zeroBag) (adj es) order)))))) := by
  refine spec13 ?_
  unfold F13
  have hE1 : Ext H nx (hs H nx (some (.cells [.int .i64 N0, .slice A es.length cap] 0))) (nx + 1) := (Ext.refl H nx).new _ (Nat.le_refl _) (by omega)
  simp (config := { maxSteps := 2000000 }) (disch := first | omega | assumption | exact shr_lt (by assumption) | exact ndiff32 (by assumption) | exact below_lt (by omega) | fail) only [List.getD_cons_zero, List.getD_cons_succ, wBin_lss, wBin_leq, wBin_gtr, wBin_geq, wBin_eql, wBin_neq, wIf_bool, wGuard_true, wGuard_false, wPick_true, wPick_false, wUn_not, wFld_eq, wExt_eq, wPart_one, wPart_agg, wLen_slice, wLen_string, wNew_eq, wNm_eq, dBox_agg, dBox_int, dBox_slice, dBox_string, dBox_bool, dBox_map, dBox_ptr, oneCells, wLd_none, wLd_2, wLd_3, wLd_32, ldP_cells, ldP_rom, cellP_one, getH_same, getH_ne, forceV_eq, forceN_eq, hsK_eq, Option.elim_some, List.getElem?_cons_zero, List.getElem?_cons_succ, Yld.val, decide_true, decide_false, if_true, if_false, Bool.false_eq_true, Nat.zero_add, Nat.add_zero, and_true, true_and, or_false, Bool.not_true, Bool.not_false, and_self, wBin_add64, wBin_sub64, wIdx_slice, wIdx_array, wNilc_eq, Int.toNat_natCast, Nat.mul_one, Nat.zero_mul, wSt_agg, wSt_int, wSt_bool, wSt_string, wSt_slice, wSt_ptr, wSt_map, wSt_func, stP_cells, bit_one, bit_zero, bit_one', bit_zero', wBin_shr32, wBin_and1, wBin_rem2, wBin_andNot32, wBin_or32, wBin_and32, wBin_shl32, u32_eq_zero, u32_ne_zero, List.length_cons, List.length_nil, Nat.le_refl, Nat.reduceAdd, Nat.reduceMul, Nat.reduceLeDiff, Int.toNat_zero, Int.toNat_one, cellP_lit2, zeros64, zeros32]
  refine wCall_rule (checkFree27 N0 free A es cap _ _ (hS.ext hE1) hsm) ?_
  rintro _ H2 nx2 ⟨rfl, hE2⟩
  have hEE2 := hE1.trans hE2
  have hg2 := hE2.get nx (by omega)
  rw [getH_same] at hg2
  have hnx2 := hE2.le
  by_cases hfc : fcode N0 free es = 0
  case neg =>
    have d1 : decide (fcode N0 free es ≠ 0) = true := by simp [hfc]
    simp (disch := first | omega | assumption | exact shr_lt (by assumption) | exact ndiff32 (by assumption) | exact below_lt (by omega) | fail) only [List.getD_cons_zero, List.getD_cons_succ, wBin_lss, wBin_leq, wBin_gtr, wBin_geq, wBin_eql, wBin_neq, wIf_bool, wGuard_true, wGuard_false, wPick_true, wPick_false, wUn_not, wFld_eq, wExt_eq, wPart_one, wPart_agg, wLen_slice, wLen_string, wNew_eq, wNm_eq, dBox_agg, dBox_int, dBox_slice, dBox_string, dBox_bool, dBox_map, dBox_ptr, oneCells, wLd_none, wLd_2, wLd_3, wLd_32, ldP_cells, ldP_rom, cellP_one, getH_same, getH_ne, forceV_eq, forceN_eq, hsK_eq, Option.elim_some, List.getElem?_cons_zero, List.getElem?_cons_succ, Yld.val, decide_true, decide_false, if_true, if_false, Bool.false_eq_true, Nat.zero_add, Nat.add_zero, and_true, true_and, or_false, Bool.not_true, Bool.not_false, and_self, wBin_add64, wBin_sub64, wIdx_slice, wIdx_array, wNilc_eq, Int.toNat_natCast, Nat.mul_one, Nat.zero_mul, wSt_agg, wSt_int, wSt_bool, wSt_string, wSt_slice, wSt_ptr, wSt_map, wSt_func, stP_cells, bit_one, bit_zero, bit_one', bit_zero', wBin_shr32, wBin_and1, wBin_rem2, wBin_andNot32, wBin_or32, wBin_and32, wBin_shl32, u32_eq_zero, u32_ne_zero, List.length_cons, List.length_nil, Nat.le_refl, Nat.reduceAdd, Nat.reduceMul, Nat.reduceLeDiff, Int.toNat_zero, Int.toNat_one, d1]
    exact ⟨hEE2, .inl ⟨hfc, rfl⟩⟩
  have d1 : decide (fcode N0 free es ≠ 0) = false := by simp [hfc]
  obtain ⟨n, f, rfl, rfl, hn, hfn, hle, hes⟩ := fcode_inv hfc
  simp (config := { maxSteps := 2000000 }) (disch := first | omega | assumption | exact shr_lt (by assumption) | exact ndiff32 (by assumption) | exact below_lt (by omega) | fail) only [List.getD_cons_zero, List.getD_cons_succ, wBin_lss, wBin_leq, wBin_gtr, wBin_geq, wBin_eql, wBin_neq, wIf_bool, wGuard_true, wGuard_false, wPick_true, wPick_false, wUn_not, wFld_eq, wExt_eq, wPart_one, wPart_agg, wLen_slice, wLen_string, wNew_eq, wNm_eq, dBox_agg, dBox_int, dBox_slice, dBox_string, dBox_bool, dBox_map, dBox_ptr, oneCells, wLd_none, wLd_2, wLd_3, wLd_32, ldP_cells, ldP_rom, cellP_one, getH_same, getH_ne, forceV_eq, forceN_eq, hsK_eq, Option.elim_some, List.getElem?_cons_zero, List.getElem?_cons_succ, Yld.val, decide_true, decide_false, if_true, if_false, Bool.false_eq_true, Nat.zero_add, Nat.add_zero, and_true, true_and, or_false, Bool.not_true, Bool.not_false, and_self, wBin_add64, wBin_sub64, wIdx_slice, wIdx_array, wNilc_eq, Int.toNat_natCast, Nat.mul_one, Nat.zero_mul, wSt_agg, wSt_int, wSt_bool, wSt_string, wSt_slice, wSt_ptr, wSt_map, wSt_func, stP_cells, bit_one, bit_zero, bit_one', bit_zero', wBin_shr32, wBin_and1, wBin_rem2, wBin_andNot32, wBin_or32, wBin_and32, wBin_shl32, u32_eq_zero, u32_ne_zero, List.length_cons, List.length_nil, Nat.le_refl, Nat.reduceAdd, Nat.reduceMul, Nat.reduceLeDiff, Int.toNat_zero, Int.toNat_one, d1]
  have good : ∀ {r : Value} {H' : Heap} {nx' : Nat}, Ext H nx H' nx' → ((¬ permOK l f n ∧ r = refuse 1) ∨ (permOK l f n ∧ ∃ order : List Nat, (l ++ downTo f f = order.map fun (w : Nat) => (w : Int)) ∧ order.Nodup ∧ (∀ w ∈ order, w < n) ∧ order.length = n ∧
          ∃ R, r = .tuple ⟨[.slice R n n, .int .i64 0]⟩ ∧ Sl H' nx' R (bagsC (outs n (List.replicate n zeroBag) (adj es) order)))) →
      Ext H nx H' nx' ∧ ((fcode (n : Int) (f : Int) es ≠ 0 ∧ r = refuse (fcode (n : Int) (f : Int) es)) ∨ (∃ n' f' : Nat, (n : Int) = n' ∧ (f : Int) = f' ∧ f' ≤ n' ∧ n' ≤ 32 ∧ fcode (n : Int) (f : Int) es = 0 ∧
        ((¬ permOK l f' n' ∧ r = refuse 1) ∨ (permOK l f' n' ∧ ∃ order : List Nat, (l ++ downTo f' f' = order.map fun (w : Nat) => (w : Int)) ∧ order.Nodup ∧ (∀ w ∈ order, w < n') ∧ order.length = n' ∧
          ∃ R, r = .tuple ⟨[.slice R n' n', .int .i64 0]⟩ ∧ Sl H' nx' R (bagsC (outs n' (List.replicate n' zeroBag) (adj es) order)))))) :=
    fun hE h => ⟨hE, .inr ⟨n, f, rfl, rfl, hfn, hn, hfc, h⟩⟩
  -- the permutation is looked at
  refine wLoop_rule (m := l.length) (fun m L H' nx' => ∃ i seen : Nat, m + i = l.length ∧ L = [.int .u32 (seen : Int), .int .i64 (i : Int)] ∧ seen < 4294967296 ∧ (∀ w : Nat, seen.testBit w = decide ((w : Int) ∈ l.take i)) ∧
    (∀ x ∈ l.take i, (f : Int) ≤ x ∧ x < (n : Int)) ∧ (l.take i).Nodup ∧ H2 = H' ∧ nx2 = nx') ?_ ⟨0, 0, rfl, rfl, by omega, by simp, by simp, by simp, rfl, rfl⟩
  rintro m ih L _ _ ⟨i, seen, hm, rfl, hseen, hbits, hin, hnd, rfl, rfl⟩ hih
  simp (config := { maxSteps := 2000000 }) (disch := first | omega | assumption | exact shr_lt (by assumption) | exact ndiff32 (by assumption) | exact below_lt (by omega) | fail) only [List.getD_cons_zero, List.getD_cons_succ, wBin_lss, wBin_leq, wBin_gtr, wBin_geq, wBin_eql, wBin_neq, wIf_bool, wGuard_true, wGuard_false, wPick_true, wPick_false, wUn_not, wFld_eq, wExt_eq, wPart_one, wPart_agg, wLen_slice, wLen_string, wNew_eq, wNm_eq, dBox_agg, dBox_int, dBox_slice, dBox_string, dBox_bool, dBox_map, dBox_ptr, oneCells, wLd_none, wLd_2, wLd_3, wLd_32, ldP_cells, ldP_rom, cellP_one, getH_same, getH_ne, forceV_eq, forceN_eq, hsK_eq, Option.elim_some, List.getElem?_cons_zero, List.getElem?_cons_succ, Yld.val, decide_true, decide_false, if_true, if_false, Bool.false_eq_true, Nat.zero_add, Nat.add_zero, and_true, true_and, or_false, Bool.not_true, Bool.not_false, and_self, wBin_add64, wBin_sub64, wIdx_slice, wIdx_array, wNilc_eq, Int.toNat_natCast, Nat.mul_one, Nat.zero_mul, wSt_agg, wSt_int, wSt_bool, wSt_string, wSt_slice, wSt_ptr, wSt_map, wSt_func, stP_cells, bit_one, bit_zero, bit_one', bit_zero', wBin_shr32, wBin_and1, wBin_rem2, wBin_andNot32, wBin_or32, wBin_and32, wBin_shl32, u32_eq_zero, u32_ne_zero, List.length_cons, List.length_nil, Nat.le_refl, Nat.reduceAdd, Nat.reduceMul, Nat.reduceLeDiff, Int.toNat_zero, Int.toNat_one]
  by_cases hi : i < l.length
  case pos =>
    have hi' : (i : Int) < (l.length : Int) := by omega
    obtain ⟨x, hx⟩ : ∃ x, l[i]? = some x := ⟨_, List.getElem?_eq_getElem hi⟩
    obtain ⟨B, o, row, rfl, hBn, hrow, hget⟩ := (hP.ext hEE2).open (i := i) (by rw [i64s_length]; omega)
    have g0 := hget _ _ (i64s_get hx)
    have bad : ¬ ((f : Int) ≤ x ∧ x < (n : Int)) → ¬ permOK l f n := fun h1 h2 => h1 (h2.2.1 x (List.mem_of_getElem? hx))
    simp (disch := first | omega | assumption | exact shr_lt (by assumption) | exact ndiff32 (by assumption) | exact below_lt (by omega) | fail) only [List.getD_cons_zero, List.getD_cons_succ, wBin_lss, wBin_leq, wBin_gtr, wBin_geq, wBin_eql, wBin_neq, wIf_bool, wGuard_true, wGuard_false, wPick_true, wPick_false, wUn_not, wFld_eq, wExt_eq, wPart_one, wPart_agg, wLen_slice, wLen_string, wNew_eq, wNm_eq, dBox_agg, dBox_int, dBox_slice, dBox_string, dBox_bool, dBox_map, dBox_ptr, oneCells, wLd_none, wLd_2, wLd_3, wLd_32, ldP_cells, ldP_rom, cellP_one, getH_same, getH_ne, forceV_eq, forceN_eq, hsK_eq, Option.elim_some, List.getElem?_cons_zero, List.getElem?_cons_succ, Yld.val, decide_true, decide_false, if_true, if_false, Bool.false_eq_true, Nat.zero_add, Nat.add_zero, and_true, true_and, or_false, Bool.not_true, Bool.not_false, and_self, wBin_add64, wBin_sub64, wIdx_slice, wIdx_array, wNilc_eq, Int.toNat_natCast, Nat.mul_one, Nat.zero_mul, wSt_agg, wSt_int, wSt_bool, wSt_string, wSt_slice, wSt_ptr, wSt_map, wSt_func, stP_cells, bit_one, bit_zero, bit_one', bit_zero', wBin_shr32, wBin_and1, wBin_rem2, wBin_andNot32, wBin_or32, wBin_and32, wBin_shl32, u32_eq_zero, u32_ne_zero, List.length_cons, List.length_nil, Nat.le_refl, Nat.reduceAdd, Nat.reduceMul, Nat.reduceLeDiff, Int.toNat_zero, Int.toNat_one, hi', wJoin_eq, ldP_row hrow, g0, hg2]
    by_cases h1 : x < (f : Int)
    · simp (disch := first | omega | assumption | exact shr_lt (by assumption) | exact ndiff32 (by assumption) | exact below_lt (by omega) | fail) only [List.getD_cons_zero, List.getD_cons_succ, wBin_lss, wBin_leq, wBin_gtr, wBin_geq, wBin_eql, wBin_neq, wIf_bool, wGuard_true, wGuard_false, wPick_true, wPick_false, wUn_not, wFld_eq, wExt_eq, wPart_one, wPart_agg, wLen_slice, wLen_string, wNew_eq, wNm_eq, dBox_agg, dBox_int, dBox_slice, dBox_string, dBox_bool, dBox_map, dBox_ptr, oneCells, wLd_none, wLd_2, wLd_3, wLd_32, ldP_cells, ldP_rom, cellP_one, getH_same, getH_ne, forceV_eq, forceN_eq, hsK_eq, Option.elim_some, List.getElem?_cons_zero, List.getElem?_cons_succ, Yld.val, decide_true, decide_false, if_true, if_false, Bool.false_eq_true, Nat.zero_add, Nat.add_zero, and_true, true_and, or_false, Bool.not_true, Bool.not_false, and_self, wBin_add64, wBin_sub64, wIdx_slice, wIdx_array, wNilc_eq, Int.toNat_natCast, Nat.mul_one, Nat.zero_mul, wSt_agg, wSt_int, wSt_bool, wSt_string, wSt_slice, wSt_ptr, wSt_map, wSt_func, stP_cells, bit_one, bit_zero, bit_one', bit_zero', wBin_shr32, wBin_and1, wBin_rem2, wBin_andNot32, wBin_or32, wBin_and32, wBin_shl32, u32_eq_zero, u32_ne_zero, List.length_cons, List.length_nil, Nat.le_refl, Nat.reduceAdd, Nat.reduceMul, Nat.reduceLeDiff, Int.toNat_zero, Int.toNat_one, h1]
      exact good hEE2 (.inl ⟨bad (by omega), rfl⟩)
    by_cases h2 : x ≥ (n : Int)
    · simp (disch := first | omega | assumption | exact shr_lt (by assumption) | exact ndiff32 (by assumption) | exact below_lt (by omega) | fail) only [List.getD_cons_zero, List.getD_cons_succ, wBin_lss, wBin_leq, wBin_gtr, wBin_geq, wBin_eql, wBin_neq, wIf_bool, wGuard_true, wGuard_false, wPick_true, wPick_false, wUn_not, wFld_eq, wExt_eq, wPart_one, wPart_agg, wLen_slice, wLen_string, wNew_eq, wNm_eq, dBox_agg, dBox_int, dBox_slice, dBox_string, dBox_bool, dBox_map, dBox_ptr, oneCells, wLd_none, wLd_2, wLd_3, wLd_32, ldP_cells, ldP_rom, cellP_one, getH_same, getH_ne, forceV_eq, forceN_eq, hsK_eq, Option.elim_some, List.getElem?_cons_zero, List.getElem?_cons_succ, Yld.val, decide_true, decide_false, if_true, if_false, Bool.false_eq_true, Nat.zero_add, Nat.add_zero, and_true, true_and, or_false, Bool.not_true, Bool.not_false, and_self, wBin_add64, wBin_sub64, wIdx_slice, wIdx_array, wNilc_eq, Int.toNat_natCast, Nat.mul_one, Nat.zero_mul, wSt_agg, wSt_int, wSt_bool, wSt_string, wSt_slice, wSt_ptr, wSt_map, wSt_func, stP_cells, bit_one, bit_zero, bit_one', bit_zero', wBin_shr32, wBin_and1, wBin_rem2, wBin_andNot32, wBin_or32, wBin_and32, wBin_shl32, u32_eq_zero, u32_ne_zero, List.length_cons, List.length_nil, Nat.le_refl, Nat.reduceAdd, Nat.reduceMul, Nat.reduceLeDiff, Int.toNat_zero, Int.toNat_one, h1, h2]
      exact good hEE2 (.inl ⟨bad (by omega), rfl⟩)
    obtain ⟨w, rfl⟩ : ∃ w : Nat, x = w := ⟨x.toNat, by omega⟩
    have hw : w < 32 := by omega
    have hb := hbits w
    cases hsw : seen.testBit w with
    | true =>
      simp (disch := first | omega | assumption | exact shr_lt (by assumption) | exact ndiff32 (by assumption) | exact below_lt (by omega) | fail) only [List.getD_cons_zero, List.getD_cons_succ, wBin_lss, wBin_leq, wBin_gtr, wBin_geq, wBin_eql, wBin_neq, wIf_bool, wGuard_true, wGuard_false, wPick_true, wPick_false, wUn_not, wFld_eq, wExt_eq, wPart_one, wPart_agg, wLen_slice, wLen_string, wNew_eq, wNm_eq, dBox_agg, dBox_int, dBox_slice, dBox_string, dBox_bool, dBox_map, dBox_ptr, oneCells, wLd_none, wLd_2, wLd_3, wLd_32, ldP_cells, ldP_rom, cellP_one, getH_same, getH_ne, forceV_eq, forceN_eq, hsK_eq, Option.elim_some, List.getElem?_cons_zero, List.getElem?_cons_succ, Yld.val, decide_true, decide_false, if_true, if_false, Bool.false_eq_true, Nat.zero_add, Nat.add_zero, and_true, true_and, or_false, Bool.not_true, Bool.not_false, and_self, wBin_add64, wBin_sub64, wIdx_slice, wIdx_array, wNilc_eq, Int.toNat_natCast, Nat.mul_one, Nat.zero_mul, wSt_agg, wSt_int, wSt_bool, wSt_string, wSt_slice, wSt_ptr, wSt_map, wSt_func, stP_cells, bit_one, bit_zero, bit_one', bit_zero', wBin_shr32, wBin_and1, wBin_rem2, wBin_andNot32, wBin_or32, wBin_and32, wBin_shl32, u32_eq_zero, u32_ne_zero, List.length_cons, List.length_nil, Nat.le_refl, Nat.reduceAdd, Nat.reduceMul, Nat.reduceLeDiff, Int.toNat_zero, Int.toNat_one, h1, h2, hsw]
      refine good hEE2 (.inl ⟨fun hp => ?_, rfl⟩)
      rw [hsw] at hb
      have hmem : (w : Int) ∈ l.take i := by simpa using hb.symm
      obtain ⟨j, hj, hje⟩ := List.getElem_of_mem hmem
      simp at hj
      have hj2 : l[j]? = some (w : Int) := by rw [← hje, List.getElem_take]; exact List.getElem?_eq_getElem (by omega)
      have hne := (List.pairwise_iff_getElem.mp hp.2.2) j i (by omega) hi (by omega)
      exact hne (by rw [(List.getElem?_eq_some_iff.mp hj2).2, (List.getElem?_eq_some_iff.mp hx).2])
    | false =>
      have hp32 : 2 ^ w < 4294967296 := pow32 hw
      rw [hsw] at hb
      have hnm : (w : Int) ∉ l.take i := by simpa using hb.symm
      simp (disch := first | omega | assumption | exact shr_lt (by assumption) | exact ndiff32 (by assumption) | exact below_lt (by omega) | fail) only [List.getD_cons_zero, List.getD_cons_succ, wBin_lss, wBin_leq, wBin_gtr, wBin_geq, wBin_eql, wBin_neq, wIf_bool, wGuard_true, wGuard_false, wPick_true, wPick_false, wUn_not, wFld_eq, wExt_eq, wPart_one, wPart_agg, wLen_slice, wLen_string, wNew_eq, wNm_eq, dBox_agg, dBox_int, dBox_slice, dBox_string, dBox_bool, dBox_map, dBox_ptr, oneCells, wLd_none, wLd_2, wLd_3, wLd_32, ldP_cells, ldP_rom, cellP_one, getH_same, getH_ne, forceV_eq, forceN_eq, hsK_eq, Option.elim_some, List.getElem?_cons_zero, List.getElem?_cons_succ, Yld.val, decide_true, decide_false, if_true, if_false, Bool.false_eq_true, Nat.zero_add, Nat.add_zero, and_true, true_and, or_false, Bool.not_true, Bool.not_false, and_self, wBin_add64, wBin_sub64, wIdx_slice, wIdx_array, wNilc_eq, Int.toNat_natCast, Nat.mul_one, Nat.zero_mul, wSt_agg, wSt_int, wSt_bool, wSt_string, wSt_slice, wSt_ptr, wSt_map, wSt_func, stP_cells, bit_one, bit_zero, bit_one', bit_zero', wBin_shr32, wBin_and1, wBin_rem2, wBin_andNot32, wBin_or32, wBin_and32, wBin_shl32, u32_eq_zero, u32_ne_zero, List.length_cons, List.length_nil, Nat.le_refl, Nat.reduceAdd, Nat.reduceMul, Nat.reduceLeDiff, Int.toNat_zero, Int.toNat_one, h1, h2, hsw]
      refine hih (m - 1) _ _ _ (by omega) ⟨i + 1, seen ||| 2 ^ w, by omega, by simp, or32 hseen hp32, fun u => ?_, ?_, ?_, rfl, rfl⟩
      · rw [Nat.testBit_or, hbits, Nat.testBit_two_pow, take_next hx]
        by_cases huw : u = w
        · subst huw; simp
        · have e1 : decide (w = u) = false := by simp; omega
          have e2 : ¬ (u : Int) = (w : Int) := by omega
          simp [e1, e2]
      · rw [take_next hx]
        intro z hz
        simp only [List.mem_append, List.mem_singleton] at hz
        rcases hz with hz | rfl
        · exact hin z hz
        · omega
      · rw [take_next hx]; exact nodup_snoc hnd hnm
  have hi' : ¬ (i : Int) < (l.length : Int) := by omega
  rw [take_all hi] at hin hnd
  by_cases hlen : l.length + f = n
  case neg =>
    have d2 : decide ((l.length : Int) ≠ (n : Int) - (f : Int)) = true := by simp; omega
    simp (disch := first | omega | assumption | exact shr_lt (by assumption) | exact ndiff32 (by assumption) | exact below_lt (by omega) | fail) only [List.getD_cons_zero, List.getD_cons_succ, wBin_lss, wBin_leq, wBin_gtr, wBin_geq, wBin_eql, wBin_neq, wIf_bool, wGuard_true, wGuard_false, wPick_true, wPick_false, wUn_not, wFld_eq, wExt_eq, wPart_one, wPart_agg, wLen_slice, wLen_string, wNew_eq, wNm_eq, dBox_agg, dBox_int, dBox_slice, dBox_string, dBox_bool, dBox_map, dBox_ptr, oneCells, wLd_none, wLd_2, wLd_3, wLd_32, ldP_cells, ldP_rom, cellP_one, getH_same, getH_ne, forceV_eq, forceN_eq, hsK_eq, Option.elim_some, List.getElem?_cons_zero, List.getElem?_cons_succ, Yld.val, decide_true, decide_false, if_true, if_false, Bool.false_eq_true, Nat.zero_add, Nat.add_zero, and_true, true_and, or_false, Bool.not_true, Bool.not_false, and_self, wBin_add64, wBin_sub64, wIdx_slice, wIdx_array, wNilc_eq, Int.toNat_natCast, Nat.mul_one, Nat.zero_mul, wSt_agg, wSt_int, wSt_bool, wSt_string, wSt_slice, wSt_ptr, wSt_map, wSt_func, stP_cells, bit_one, bit_zero, bit_one', bit_zero', wBin_shr32, wBin_and1, wBin_rem2, wBin_andNot32, wBin_or32, wBin_and32, wBin_shl32, u32_eq_zero, u32_ne_zero, List.length_cons, List.length_nil, Nat.le_refl, Nat.reduceAdd, Nat.reduceMul, Nat.reduceLeDiff, Int.toNat_zero, Int.toNat_one, hi', hg2, d2]
    exact good hEE2 (.inl ⟨fun hp => hlen hp.1, rfl⟩)
  have d2 : decide ((l.length : Int) ≠ (n : Int) - (f : Int)) = false := by simp; omega
  have hpok : permOK l f n := ⟨hlen, hin, hnd⟩
  simp (config := { maxSteps := 2000000 }) (disch := first | omega | assumption | exact shr_lt (by assumption) | exact ndiff32 (by assumption) | exact below_lt (by omega) | fail) only [List.getD_cons_zero, List.getD_cons_succ, wBin_lss, wBin_leq, wBin_gtr, wBin_geq, wBin_eql, wBin_neq, wIf_bool, wGuard_true, wGuard_false, wPick_true, wPick_false, wUn_not, wFld_eq, wExt_eq, wPart_one, wPart_agg, wLen_slice, wLen_string, wNew_eq, wNm_eq, dBox_agg, dBox_int, dBox_slice, dBox_string, dBox_bool, dBox_map, dBox_ptr, oneCells, wLd_none, wLd_2, wLd_3, wLd_32, ldP_cells, ldP_rom, cellP_one, getH_same, getH_ne, forceV_eq, forceN_eq, hsK_eq, Option.elim_some, List.getElem?_cons_zero, List.getElem?_cons_succ, Yld.val, decide_true, decide_false, if_true, if_false, Bool.false_eq_true, Nat.zero_add, Nat.add_zero, and_true, true_and, or_false, Bool.not_true, Bool.not_false, and_self, wBin_add64, wBin_sub64, wIdx_slice, wIdx_array, wNilc_eq, Int.toNat_natCast, Nat.mul_one, Nat.zero_mul, wSt_agg, wSt_int, wSt_bool, wSt_string, wSt_slice, wSt_ptr, wSt_map, wSt_func, stP_cells, bit_one, bit_zero, bit_one', bit_zero', wBin_shr32, wBin_and1, wBin_rem2, wBin_andNot32, wBin_or32, wBin_and32, wBin_shl32, u32_eq_zero, u32_ne_zero, List.length_cons, List.length_nil, Nat.le_refl, Nat.reduceAdd, Nat.reduceMul, Nat.reduceLeDiff, Int.toNat_zero, Int.toNat_one, hi', hg2, d2]
  clear hih
  obtain ⟨order, hord, hond, holt, holen⟩ := perm_order hpok
  have hl32 : l.length ≤ 32 := by omega
  generalize hK : hs (hs H2 nx2 (some (.cells (i64s (List.replicate 32 0)) 0))) (nx2 + 1) (some (.cells (i64s (List.replicate 32 0)) 0)) = K
  have kO : getH K nx2 = some (.cells (i64s (List.replicate 32 0)) 0) := by rw [← hK, getH_ne _ (by omega), getH_same]
  have kP : getH K (nx2 + 1) = some (.cells (i64s (List.replicate 32 0)) 0) := by rw [← hK, getH_same]
  have hEK : Ext H2 nx2 K (nx2 + 1 + 1) := by rw [← hK]; exact ((Ext.self (by omega) : Ext H2 nx2 H2 (nx2 + 1 + 1)).hs (by omega)).hs (by omega)
  have kG := (hEK.get nx (by omega)).trans hg2
  have z32 : (i64s (List.replicate 32 0)).length = 32 := by rw [i64s_length]; simp
  rw [slA_all, wCopy_row kO (src_any (hP.ext (hEE2.trans hEK)) (hP0.ext (hEE2.trans hEK)) (by rw [i64s_length]; omega) (by omega)) hl32 (oneCells_i64s l) (by rw [i64s_length, z32]; exact hl32), copy_i64s hl32]
  -- the order
  refine wLoop_rule (m := f) (fun m L H' nx' => ∃ (i : Nat) (ol : List Int), m + i = f ∧ L = [.int .i64 (i : Int)] ∧ ol.length = 32 ∧ (∀ j, j < l.length + i → ol[j]? = (l ++ downTo f f)[j]?) ∧
    getH H' nx2 = some (.cells (i64s ol) 0) ∧ (∀ q, q ≠ nx2 → getH H' q = getH K q) ∧ nx2 + 1 + 1 = nx') ?_ ⟨0, l ++ List.replicate (32 - l.length) 0, rfl, rfl, by simp; omega, fun j hj => by
      rw [List.getElem?_append_left (by omega), List.getElem?_append_left (by omega)], getH_same _ _ _, fun q hq => getH_ne _ hq, rfl⟩
  rintro m3 ih3 L3 H3 _ ⟨i3, ol, hm3, rfl, holn, hov, hO3, hsame3, rfl⟩ hih3
  simp (config := { maxSteps := 2000000 }) (disch := first | omega | assumption | exact shr_lt (by assumption) | exact ndiff32 (by assumption) | exact below_lt (by omega) | fail) only [List.getD_cons_zero, List.getD_cons_succ, wBin_lss, wBin_leq, wBin_gtr, wBin_geq, wBin_eql, wBin_neq, wIf_bool, wGuard_true, wGuard_false, wPick_true, wPick_false, wUn_not, wFld_eq, wExt_eq, wPart_one, wPart_agg, wLen_slice, wLen_string, wNew_eq, wNm_eq, dBox_agg, dBox_int, dBox_slice, dBox_string, dBox_bool, dBox_map, dBox_ptr, oneCells, wLd_none, wLd_2, wLd_3, wLd_32, ldP_cells, ldP_rom, cellP_one, getH_same, getH_ne, forceV_eq, forceN_eq, hsK_eq, Option.elim_some, List.getElem?_cons_zero, List.getElem?_cons_succ, Yld.val, decide_true, decide_false, if_true, if_false, Bool.false_eq_true, Nat.zero_add, Nat.add_zero, and_true, true_and, or_false, Bool.not_true, Bool.not_false, and_self, wBin_add64, wBin_sub64, wIdx_slice, wIdx_array, wNilc_eq, Int.toNat_natCast, Nat.mul_one, Nat.zero_mul, wSt_agg, wSt_int, wSt_bool, wSt_string, wSt_slice, wSt_ptr, wSt_map, wSt_func, stP_cells, bit_one, bit_zero, bit_one', bit_zero', wBin_shr32, wBin_and1, wBin_rem2, wBin_andNot32, wBin_or32, wBin_and32, wBin_shl32, u32_eq_zero, u32_ne_zero, List.length_cons, List.length_nil, Nat.le_refl, Nat.reduceAdd, Nat.reduceMul, Nat.reduceLeDiff, Int.toNat_zero, Int.toNat_one]
  by_cases hi3 : i3 < f
  case pos =>
    have hi3' : (i3 : Int) < (f : Int) := by omega
    have hidx : ((l.length : Int) + (i3 : Int)).toNat = l.length + i3 := by omega
    have hb3 : l.length + i3 < ol.length := by omega
    have hol3 : (i64s ol).length = 32 := by rw [i64s_length]; exact holn
    simp (disch := first | omega | assumption | exact shr_lt (by assumption) | exact ndiff32 (by assumption) | exact below_lt (by omega) | fail) only [List.getD_cons_zero, List.getD_cons_succ, wBin_lss, wBin_leq, wBin_gtr, wBin_geq, wBin_eql, wBin_neq, wIf_bool, wGuard_true, wGuard_false, wPick_true, wPick_false, wUn_not, wFld_eq, wExt_eq, wPart_one, wPart_agg, wLen_slice, wLen_string, wNew_eq, wNm_eq, dBox_agg, dBox_int, dBox_slice, dBox_string, dBox_bool, dBox_map, dBox_ptr, oneCells, wLd_none, wLd_2, wLd_3, wLd_32, ldP_cells, ldP_rom, cellP_one, getH_same, getH_ne, forceV_eq, forceN_eq, hsK_eq, Option.elim_some, List.getElem?_cons_zero, List.getElem?_cons_succ, Yld.val, decide_true, decide_false, if_true, if_false, Bool.false_eq_true, Nat.zero_add, Nat.add_zero, and_true, true_and, or_false, Bool.not_true, Bool.not_false, and_self, wBin_add64, wBin_sub64, wIdx_slice, wIdx_array, wNilc_eq, Int.toNat_natCast, Nat.mul_one, Nat.zero_mul, wSt_agg, wSt_int, wSt_bool, wSt_string, wSt_slice, wSt_ptr, wSt_map, wSt_func, stP_cells, bit_one, bit_zero, bit_one', bit_zero', wBin_shr32, wBin_and1, wBin_rem2, wBin_andNot32, wBin_or32, wBin_and32, wBin_shl32, u32_eq_zero, u32_ne_zero, List.length_cons, List.length_nil, Nat.le_refl, Nat.reduceAdd, Nat.reduceMul, Nat.reduceLeDiff, Int.toNat_zero, Int.toNat_one, hi3', hidx, hO3, putL_i64s hb3, hol3]
    refine ⟨by omega, hih3 (m3 - 1) _ _ _ (by omega) ⟨i3 + 1, ol.set (l.length + i3) ((f : Int) - 1 - i3), by omega, by simp, by rw [List.length_set]; exact holn, fun j hj => ?_, getH_same _ _ _, fun q hq => by rw [getH_ne _ hq]; exact hsame3 q hq, rfl⟩⟩
    rw [List.getElem?_set]
    by_cases hjj : l.length + i3 = j
    · subst hjj
      rw [if_pos rfl, if_pos (by omega), List.getElem?_append_right (by omega), Nat.add_sub_cancel_left, downTo_get hi3]
    · rw [if_neg hjj]; exact hov j (by omega)
  have hi3' : ¬ (i3 : Int) < (f : Int) := by omega
  have hi3e : i3 = f := by omega
  subst hi3e
  have hon : ∀ (j w : Nat), order[j]? = some w → ol[j]? = some (w : Int) := by
    intro j w hj
    rw [hov j (by have := lt_len hj; omega), hord]
    simp [hj]
  have hG3 := (hsame3 nx (by omega)).trans kG
  simp (config := { maxSteps := 2000000 }) (disch := first | omega | assumption | exact shr_lt (by assumption) | exact ndiff32 (by assumption) | exact below_lt (by omega) | fail) only [List.getD_cons_zero, List.getD_cons_succ, wBin_lss, wBin_leq, wBin_gtr, wBin_geq, wBin_eql, wBin_neq, wIf_bool, wGuard_true, wGuard_false, wPick_true, wPick_false, wUn_not, wFld_eq, wExt_eq, wPart_one, wPart_agg, wLen_slice, wLen_string, wNew_eq, wNm_eq, dBox_agg, dBox_int, dBox_slice, dBox_string, dBox_bool, dBox_map, dBox_ptr, oneCells, wLd_none, wLd_2, wLd_3, wLd_32, ldP_cells, ldP_rom, cellP_one, getH_same, getH_ne, forceV_eq, forceN_eq, hsK_eq, Option.elim_some, List.getElem?_cons_zero, List.getElem?_cons_succ, Yld.val, decide_true, decide_false, if_true, if_false, Bool.false_eq_true, Nat.zero_add, Nat.add_zero, and_true, true_and, or_false, Bool.not_true, Bool.not_false, and_self, wBin_add64, wBin_sub64, wIdx_slice, wIdx_array, wNilc_eq, Int.toNat_natCast, Nat.mul_one, Nat.zero_mul, wSt_agg, wSt_int, wSt_bool, wSt_string, wSt_slice, wSt_ptr, wSt_map, wSt_func, stP_cells, bit_one, bit_zero, bit_one', bit_zero', wBin_shr32, wBin_and1, wBin_rem2, wBin_andNot32, wBin_or32, wBin_and32, wBin_shl32, u32_eq_zero, u32_ne_zero, List.length_cons, List.length_nil, Nat.le_refl, Nat.reduceAdd, Nat.reduceMul, Nat.reduceLeDiff, Int.toNat_zero, Int.toNat_one, hi3', hG3]
  clear hih3
  -- the places
  refine wLoop_rule (m := n) (fun m L H' nx' => ∃ (i : Nat) (pl : List Int), m + i = n ∧ L = [.int .i64 (i : Int)] ∧ pl.length = 32 ∧ (∀ j w : Nat, order[j]? = some w → j < i → pl[w]? = some (j : Int)) ∧
    getH H' (nx2 + 1) = some (.cells (i64s pl) 0) ∧ (∀ q, q ≠ nx2 + 1 → getH H' q = getH H3 q) ∧ nx2 + 1 + 1 = nx') ?_ ⟨0, List.replicate 32 0, rfl, rfl, by simp, fun j w _ h => by omega, by rw [hsame3 (nx2 + 1) (by omega)]; exact kP, fun q hq => rfl, rfl⟩
  rintro m4 ih4 L4 H4 _ ⟨i4, pl, hm4, rfl, hpln, hpv, hP4, hsame4, rfl⟩ hih4
  have hO4 := (hsame4 nx2 (by omega)).trans hO3
  have hG4 := (hsame4 nx (by omega)).trans hG3
  simp (config := { maxSteps := 2000000 }) (disch := first | omega | assumption | exact shr_lt (by assumption) | exact ndiff32 (by assumption) | exact below_lt (by omega) | fail) only [List.getD_cons_zero, List.getD_cons_succ, wBin_lss, wBin_leq, wBin_gtr, wBin_geq, wBin_eql, wBin_neq, wIf_bool, wGuard_true, wGuard_false, wPick_true, wPick_false, wUn_not, wFld_eq, wExt_eq, wPart_one, wPart_agg, wLen_slice, wLen_string, wNew_eq, wNm_eq, dBox_agg, dBox_int, dBox_slice, dBox_string, dBox_bool, dBox_map, dBox_ptr, oneCells, wLd_none, wLd_2, wLd_3, wLd_32, ldP_cells, ldP_rom, cellP_one, getH_same, getH_ne, forceV_eq, forceN_eq, hsK_eq, Option.elim_some, List.getElem?_cons_zero, List.getElem?_cons_succ, Yld.val, decide_true, decide_false, if_true, if_false, Bool.false_eq_true, Nat.zero_add, Nat.add_zero, and_true, true_and, or_false, Bool.not_true, Bool.not_false, and_self, wBin_add64, wBin_sub64, wIdx_slice, wIdx_array, wNilc_eq, Int.toNat_natCast, Nat.mul_one, Nat.zero_mul, wSt_agg, wSt_int, wSt_bool, wSt_string, wSt_slice, wSt_ptr, wSt_map, wSt_func, stP_cells, bit_one, bit_zero, bit_one', bit_zero', wBin_shr32, wBin_and1, wBin_rem2, wBin_andNot32, wBin_or32, wBin_and32, wBin_shl32, u32_eq_zero, u32_ne_zero, List.length_cons, List.length_nil, Nat.le_refl, Nat.reduceAdd, Nat.reduceMul, Nat.reduceLeDiff, Int.toNat_zero, Int.toNat_one]
  by_cases hi4 : i4 < n
  case pos =>
    have hi4' : (i4 : Int) < (n : Int) := by omega
    obtain ⟨w, hw⟩ : ∃ w, order[i4]? = some w := ⟨_, List.getElem?_eq_getElem (by omega)⟩
    have hwn : w < n := holt w (List.mem_of_getElem? hw)
    have gw := i64s_get (hon i4 w hw)
    have hb4 : w < pl.length := by omega
    have hpl4 : (i64s pl).length = 32 := by rw [i64s_length]; exact hpln
    simp (disch := first | omega | assumption | exact shr_lt (by assumption) | exact ndiff32 (by assumption) | exact below_lt (by omega) | fail) only [List.getD_cons_zero, List.getD_cons_succ, wBin_lss, wBin_leq, wBin_gtr, wBin_geq, wBin_eql, wBin_neq, wIf_bool, wGuard_true, wGuard_false, wPick_true, wPick_false, wUn_not, wFld_eq, wExt_eq, wPart_one, wPart_agg, wLen_slice, wLen_string, wNew_eq, wNm_eq, dBox_agg, dBox_int, dBox_slice, dBox_string, dBox_bool, dBox_map, dBox_ptr, oneCells, wLd_none, wLd_2, wLd_3, wLd_32, ldP_cells, ldP_rom, cellP_one, getH_same, getH_ne, forceV_eq, forceN_eq, hsK_eq, Option.elim_some, List.getElem?_cons_zero, List.getElem?_cons_succ, Yld.val, decide_true, decide_false, if_true, if_false, Bool.false_eq_true, Nat.zero_add, Nat.add_zero, and_true, true_and, or_false, Bool.not_true, Bool.not_false, and_self, wBin_add64, wBin_sub64, wIdx_slice, wIdx_array, wNilc_eq, Int.toNat_natCast, Nat.mul_one, Nat.zero_mul, wSt_agg, wSt_int, wSt_bool, wSt_string, wSt_slice, wSt_ptr, wSt_map, wSt_func, stP_cells, bit_one, bit_zero, bit_one', bit_zero', wBin_shr32, wBin_and1, wBin_rem2, wBin_andNot32, wBin_or32, wBin_and32, wBin_shl32, u32_eq_zero, u32_ne_zero, List.length_cons, List.length_nil, Nat.le_refl, Nat.reduceAdd, Nat.reduceMul, Nat.reduceLeDiff, Int.toNat_zero, Int.toNat_one, hi4', hO4, gw, hP4, putL_i64s hb4, hpl4]
    refine ⟨by omega, hih4 (m4 - 1) _ _ _ (by omega) ⟨i4 + 1, pl.set w (i4 : Int), by omega, by simp, by rw [List.length_set]; exact hpln, fun j u hj hji => ?_, getH_same _ _ _, fun q hq => by rw [getH_ne _ hq]; exact hsame4 q hq, rfl⟩⟩
    rw [List.getElem?_set]
    by_cases huw : w = u
    · subst huw
      rw [if_pos rfl, if_pos (by omega), nodup_at hond hj hw]
    · rw [if_neg huw]
      refine hpv j u hj ?_
      have : j ≠ i4 := by intro e; subst e; rw [hw] at hj; cases hj; exact huw rfl
      omega
  have hi4' : ¬ (i4 : Int) < (n : Int) := by omega
  have hi4e : i4 = n := by omega
  subst hi4e
  simp (config := { maxSteps := 2000000 }) (disch := first | omega | assumption | exact shr_lt (by assumption) | exact ndiff32 (by assumption) | exact below_lt (by omega) | fail) only [List.getD_cons_zero, List.getD_cons_succ, wBin_lss, wBin_leq, wBin_gtr, wBin_geq, wBin_eql, wBin_neq, wIf_bool, wGuard_true, wGuard_false, wPick_true, wPick_false, wUn_not, wFld_eq, wExt_eq, wPart_one, wPart_agg, wLen_slice, wLen_string, wNew_eq, wNm_eq, dBox_agg, dBox_int, dBox_slice, dBox_string, dBox_bool, dBox_map, dBox_ptr, oneCells, wLd_none, wLd_2, wLd_3, wLd_32, ldP_cells, ldP_rom, cellP_one, getH_same, getH_ne, forceV_eq, forceN_eq, hsK_eq, Option.elim_some, List.getElem?_cons_zero, List.getElem?_cons_succ, Yld.val, decide_true, decide_false, if_true, if_false, Bool.false_eq_true, Nat.zero_add, Nat.add_zero, and_true, true_and, or_false, Bool.not_true, Bool.not_false, and_self, wBin_add64, wBin_sub64, wIdx_slice, wIdx_array, wNilc_eq, Int.toNat_natCast, Nat.mul_one, Nat.zero_mul, wSt_agg, wSt_int, wSt_bool, wSt_string, wSt_slice, wSt_ptr, wSt_map, wSt_func, stP_cells, bit_one, bit_zero, bit_one', bit_zero', wBin_shr32, wBin_and1, wBin_rem2, wBin_andNot32, wBin_or32, wBin_and32, wBin_shl32, u32_eq_zero, u32_ne_zero, List.length_cons, List.length_nil, Nat.le_refl, Nat.reduceAdd, Nat.reduceMul, Nat.reduceLeDiff, Int.toNat_zero, Int.toNat_one, hi4', hG4, cellP_lit2]
  clear hih4
  have hE4 : Ext H nx H4 (nx2 + 1 + 1) := ⟨by omega, fun q hq => by
    rw [hsame4 q (by omega), hsame3 q (by omega), hEK.get q (by omega)]; exact hEE2.get q hq⟩
  have hgc : gcode i4 es = 0 := by
    unfold fcode at hfc
    split at hfc
    · assumption
    · rename_i h; exact Decidable.of_not_not h
  refine wCall_rule (adj33 hn A es cap _ _ (hS.ext hE4) hes hle hgc) ?_
  rintro _ H5 nx5 ⟨rfl, hE5⟩
  have hnx5 := hE5.le
  have e1 : (u32s (nears es i4)).length = 32 := by rw [u32s_length]; exact nears_len es i4
  have e2 : (u32s (List.replicate 32 0)).length = 32 := by rw [u32s_length]; simp
  have e3 := putL_all (c := u32s (List.replicate 32 0)) (vs := u32s (nears es i4)) (by rw [e1, e2])
  have e4 := oneCells_u32s (nears es i4)
  have hn6 : i4 ≤ 1000000 := by omega
  have hG5 := (hE5.get nx (by omega)).trans hG4
  have hO5 := (hE5.get nx2 (by omega)).trans hO4
  have hP5 := (hE5.get (nx2 + 1) (by omega)).trans hP4
  simp (config := { maxSteps := 2000000 }) (disch := first | omega | assumption | exact shr_lt (by assumption) | exact ndiff32 (by assumption) | exact below_lt (by omega) | fail) only [List.getD_cons_zero, List.getD_cons_succ, wBin_lss, wBin_leq, wBin_gtr, wBin_geq, wBin_eql, wBin_neq, wIf_bool, wGuard_true, wGuard_false, wPick_true, wPick_false, wUn_not, wFld_eq, wExt_eq, wPart_one, wPart_agg, wLen_slice, wLen_string, wNew_eq, wNm_eq, dBox_agg, dBox_int, dBox_slice, dBox_string, dBox_bool, dBox_map, dBox_ptr, oneCells, wLd_none, wLd_2, wLd_3, wLd_32, ldP_cells, ldP_rom, cellP_one, getH_same, getH_ne, forceV_eq, forceN_eq, hsK_eq, Option.elim_some, List.getElem?_cons_zero, List.getElem?_cons_succ, Yld.val, decide_true, decide_false, if_true, if_false, Bool.false_eq_true, Nat.zero_add, Nat.add_zero, and_true, true_and, or_false, Bool.not_true, Bool.not_false, and_self, wBin_add64, wBin_sub64, wIdx_slice, wIdx_array, wNilc_eq, Int.toNat_natCast, Nat.mul_one, Nat.zero_mul, wSt_agg, wSt_int, wSt_bool, wSt_string, wSt_slice, wSt_ptr, wSt_map, wSt_func, stP_cells, bit_one, bit_zero, bit_one', bit_zero', wBin_shr32, wBin_and1, wBin_rem2, wBin_andNot32, wBin_or32, wBin_and32, wBin_shl32, u32_eq_zero, u32_ne_zero, List.length_cons, List.length_nil, Nat.le_refl, Nat.reduceAdd, Nat.reduceMul, Nat.reduceLeDiff, Int.toNat_zero, Int.toNat_one, e1, e2, e3, e4, hG5, dMsl_eq hn6, repeat_bag]
  generalize hK5 : hs (hs (hs H5 nx5 (some (.cells (u32s (List.replicate 32 0)) 0))) nx5 (some (.cells (u32s (nears es i4)) 0))) (nx5 + 1) (some (.cells (bagsC (List.replicate i4 zeroBag)) 0)) = K5
  have hEK5 : Ext H5 nx5 K5 (nx5 + 1 + 1) := by rw [← hK5]; exact (((Ext.self (by omega) : Ext H5 nx5 H5 (nx5 + 1 + 1)).hs (by omega)).hs (by omega)).hs (by omega)
  have m0 : M13 K5 (nx5 + 1 + 1) nx5 (nx5 + 1) (nears es i4) (List.replicate i4 zeroBag) K5 := by
    refine ⟨?_, ?_, fun _ _ _ _ => rfl⟩
    · rw [← hK5, getH_ne _ (by omega), getH_same]
    · rw [← hK5, getH_same]
  have hG6 := (hEK5.get nx (by omega)).trans hG5
  have hO6 := (hEK5.get nx2 (by omega)).trans hO5
  have hP6 := (hEK5.get (nx2 + 1) (by omega)).trans hP5
  have hEE5 : Ext H nx K5 (nx5 + 1 + 1) := (hE4.trans hE5).trans hEK5
  -- the elimination
  refine wLoop_rule (m := i4) (fun m L H' nx' => ∃ (i : Nat) (nl : List Nat) (out : List Bag) (N : Nb), m + i = i4 ∧ L = [.int .i64 (i : Int)] ∧ M13 K5 (nx5 + 1 + 1) nx5 (nx5 + 1) nl out H' ∧ nl.length = 32 ∧ (∀ a ∈ order.drop i, nl[a]? = some (maskOf (keyB N a (order.drop i)) i4)) ∧ NbOK N ∧ out.length = i4 ∧
    outs i4 out N (order.drop i) = outs i4 (List.replicate i4 zeroBag) (adj es) order ∧ nx5 + 1 + 1 ≤ nx') ?_ ⟨0, nears es i4, List.replicate i4 zeroBag, adj es, rfl, rfl, m0, nears_len es i4, fun a ha => by
      have ha2 : a ∈ order := ha
      rw [nears_get es hn (holt a ha2)]
      congr 1
      refine maskOf_congr fun w hw => ?_
      have := order_all hond holt holen hw
      simp [keyB, this], adj_ok es, by simp, rfl, Nat.le_refl _⟩
  rintro m7 ih7 L7 H7 nx7 ⟨j, nl, out, N, hm7, rfl, hM, hnll, hnv, hNb, hol, hout, hx7⟩ hih7
  simp (config := { maxSteps := 2000000 }) (disch := first | omega | assumption | exact shr_lt (by assumption) | exact ndiff32 (by assumption) | exact below_lt (by omega) | fail) only [List.getD_cons_zero, List.getD_cons_succ, wBin_lss, wBin_leq, wBin_gtr, wBin_geq, wBin_eql, wBin_neq, wIf_bool, wGuard_true, wGuard_false, wPick_true, wPick_false, wUn_not, wFld_eq, wExt_eq, wPart_one, wPart_agg, wLen_slice, wLen_string, wNew_eq, wNm_eq, dBox_agg, dBox_int, dBox_slice, dBox_string, dBox_bool, dBox_map, dBox_ptr, oneCells, wLd_none, wLd_2, wLd_3, wLd_32, ldP_cells, ldP_rom, cellP_one, getH_same, getH_ne, forceV_eq, forceN_eq, hsK_eq, Option.elim_some, List.getElem?_cons_zero, List.getElem?_cons_succ, Yld.val, decide_true, decide_false, if_true, if_false, Bool.false_eq_true, Nat.zero_add, Nat.add_zero, and_true, true_and, or_false, Bool.not_true, Bool.not_false, and_self, wBin_add64, wBin_sub64, wIdx_slice, wIdx_array, wNilc_eq, Int.toNat_natCast, Nat.mul_one, Nat.zero_mul, wSt_agg, wSt_int, wSt_bool, wSt_string, wSt_slice, wSt_ptr, wSt_map, wSt_func, stP_cells, bit_one, bit_zero, bit_one', bit_zero', wBin_shr32, wBin_and1, wBin_rem2, wBin_andNot32, wBin_or32, wBin_and32, wBin_shl32, u32_eq_zero, u32_ne_zero, List.length_cons, List.length_nil, Nat.le_refl, Nat.reduceAdd, Nat.reduceMul, Nat.reduceLeDiff, Int.toNat_zero, Int.toNat_one]
  by_cases hj : j < i4
  case neg =>
    have hj' : ¬ (j : Int) < (i4 : Int) := by omega
    simp (config := { maxSteps := 2000000 }) (disch := first | omega | assumption | exact shr_lt (by assumption) | exact ndiff32 (by assumption) | exact below_lt (by omega) | fail) only [List.getD_cons_zero, List.getD_cons_succ, wBin_lss, wBin_leq, wBin_gtr, wBin_geq, wBin_eql, wBin_neq, wIf_bool, wGuard_true, wGuard_false, wPick_true, wPick_false, wUn_not, wFld_eq, wExt_eq, wPart_one, wPart_agg, wLen_slice, wLen_string, wNew_eq, wNm_eq, dBox_agg, dBox_int, dBox_slice, dBox_string, dBox_bool, dBox_map, dBox_ptr, oneCells, wLd_none, wLd_2, wLd_3, wLd_32, ldP_cells, ldP_rom, cellP_one, getH_same, getH_ne, forceV_eq, forceN_eq, hsK_eq, Option.elim_some, List.getElem?_cons_zero, List.getElem?_cons_succ, Yld.val, decide_true, decide_false, if_true, if_false, Bool.false_eq_true, Nat.zero_add, Nat.add_zero, and_true, true_and, or_false, Bool.not_true, Bool.not_false, and_self, wBin_add64, wBin_sub64, wIdx_slice, wIdx_array, wNilc_eq, Int.toNat_natCast, Nat.mul_one, Nat.zero_mul, wSt_agg, wSt_int, wSt_bool, wSt_string, wSt_slice, wSt_ptr, wSt_map, wSt_func, stP_cells, bit_one, bit_zero, bit_one', bit_zero', wBin_shr32, wBin_and1, wBin_rem2, wBin_andNot32, wBin_or32, wBin_and32, wBin_shl32, u32_eq_zero, u32_ne_zero, List.length_cons, List.length_nil, Nat.le_refl, Nat.reduceAdd, Nat.reduceMul, Nat.reduceLeDiff, Int.toNat_zero, Int.toNat_one, hj']
    rw [List.drop_of_length_le (by omega)] at hout
    refine good ⟨by have := hEE5.le; omega, fun q hq => by rw [hM.same q (by have := hEE5.le; omega) (by omega) (by omega)]; exact hEE5.get q hq⟩ (.inr ⟨hpok, order, hord, hond, holt, holen, _, rfl, fun q u hu => ⟨nx5 + 1, 0, bagsC out, rfl, by omega, by rw [rowOf, hM.out]; rfl, ?_⟩⟩)
    rw [Nat.zero_add]
    have : out = outs i4 (List.replicate i4 zeroBag) (adj es) order := hout
    rw [this]; exact hu
  have hj' : (j : Int) < (i4 : Int) := by omega
  obtain ⟨v, hv⟩ : ∃ v, order[j]? = some v := ⟨_, List.getElem?_eq_getElem (by omega)⟩
  have hvn : v < i4 := holt v (List.mem_of_getElem? hv)
  have hdrop := drop_get hv
  generalize hrest : order.drop (j + 1) = rest at hdrop
  have hvr : v ∉ rest := by rw [← hrest]; exact not_mem_drop hond hv
  rw [hdrop] at hnv hout
  have hO7 := (hM.same nx2 (by omega) (by omega) (by omega)).trans hO6
  have hP7 := (hM.same (nx2 + 1) (by omega) (by omega) (by omega)).trans hP6
  have hG7 := (hM.same nx (by omega) (by omega) (by omega)).trans hG6
  have gv7 := i64s_get (hon j v hv)
  have hkv := hnv v List.mem_cons_self
  rw [key_self hNb] at hkv
  have gk7 := u32s_get hkv
  have hbld : ∀ kk, wBuild [.int .i64 0, .int .u32 0, .int .i64 0] [(0, 1), (1, 1), (2, 1)] [(0, .int .i64 (v : Int)), (1, .int .u32 ((maskOf (keyB N v rest) i4 : Nat) : Int)), (2, .int .i64 (-1))] kk = kk (.agg ⟨[.int .i64 (v : Int), .int .u32 ((maskOf (keyB N v rest) i4 : Nat) : Int), .int .i64 (-1)]⟩) := fun _ => rfl
  simp (config := { maxSteps := 2000000 }) (disch := first | omega | assumption | exact shr_lt (by assumption) | exact ndiff32 (by assumption) | exact below_lt (by omega) | fail) only [List.getD_cons_zero, List.getD_cons_succ, wBin_lss, wBin_leq, wBin_gtr, wBin_geq, wBin_eql, wBin_neq, wIf_bool, wGuard_true, wGuard_false, wPick_true, wPick_false, wUn_not, wFld_eq, wExt_eq, wPart_one, wPart_agg, wLen_slice, wLen_string, wNew_eq, wNm_eq, dBox_agg, dBox_int, dBox_slice, dBox_string, dBox_bool, dBox_map, dBox_ptr, oneCells, wLd_none, wLd_2, wLd_3, wLd_32, ldP_cells, ldP_rom, cellP_one, getH_same, getH_ne, forceV_eq, forceN_eq, hsK_eq, Option.elim_some, List.getElem?_cons_zero, List.getElem?_cons_succ, Yld.val, decide_true, decide_false, if_true, if_false, Bool.false_eq_true, Nat.zero_add, Nat.add_zero, and_true, true_and, or_false, Bool.not_true, Bool.not_false, and_self, wBin_add64, wBin_sub64, wIdx_slice, wIdx_array, wNilc_eq, Int.toNat_natCast, Nat.mul_one, Nat.zero_mul, wSt_agg, wSt_int, wSt_bool, wSt_string, wSt_slice, wSt_ptr, wSt_map, wSt_func, stP_cells, bit_one, bit_zero, bit_one', bit_zero', wBin_shr32, wBin_and1, wBin_rem2, wBin_andNot32, wBin_or32, wBin_and32, wBin_shl32, u32_eq_zero, u32_ne_zero, List.length_cons, List.length_nil, Nat.le_refl, Nat.reduceAdd, Nat.reduceMul, Nat.reduceLeDiff, Int.toNat_zero, Int.toNat_one, hj', hO7, gv7, hM.near, gk7, hbld, putL_lit3, hG7]
  have hkey32 := maskOf32 hn (keyB N v rest)
  generalize hHB : hs (hs H7 nx7 (some (.cells [.int .i64 0, .int .u32 0, .int .i64 0] 0))) nx7 (some (.cells [.int .i64 (v : Int), .int .u32 ((maskOf (keyB N v rest) i4 : Nat) : Int), .int .i64 (-1)] 0)) = HB
  have mB : M13 K5 (nx5 + 1 + 1) nx5 (nx5 + 1) nl out HB := by rw [← hHB]; exact (hM.setNew hx7 (by omega) (by omega) _).setNew hx7 (by omega) (by omega) _
  have gB : getH HB nx7 = some (.cells [.int .i64 (v : Int), .int .u32 ((maskOf (keyB N v rest) i4 : Nat) : Int), .int .i64 (-1)] 0) := by rw [← hHB, getH_same]
  refine wLoop_rule (m := i4) (fun m L H' nx' => ∃ (u : Nat) (nl : List Nat) (par : Int), m + u = i4 ∧ L = [.int .i64 (u : Int)] ∧ M13 K5 (nx5 + 1 + 1) nx5 (nx5 + 1) nl out H' ∧ getH H' nx7 = some (.cells [.int .i64 (v : Int), .int .u32 ((maskOf (keyB N v rest) i4 : Nat) : Int), .int .i64 par] 0) ∧ nl.length = 32 ∧
    (∀ a ∈ rest, nl[a]? = some (maskOf (if a < u then keyB (stepN N v rest) a rest else keyB N a (v :: rest)) i4)) ∧ ParI N v order rest u par ∧ nx7 + 1 ≤ nx') ?_ ⟨0, nl, -1, rfl, rfl, mB, gB, hnll, fun a ha => by rw [hnv a (List.mem_cons_of_mem _ ha)]; simp, .inl ⟨rfl, fun w h => by omega⟩, Nat.le_refl _⟩
  rintro m8 ih8 L8 H8 nx8 ⟨u, nl8, par, hm8, rfl, hM8, gB8, hnl8, hnv8, hpar, hx8⟩ hih8
  simp (config := { maxSteps := 2000000 }) (disch := first | omega | assumption | exact shr_lt (by assumption) | exact ndiff32 (by assumption) | exact below_lt (by omega) | fail) only [List.getD_cons_zero, List.getD_cons_succ, wBin_lss, wBin_leq, wBin_gtr, wBin_geq, wBin_eql, wBin_neq, wIf_bool, wGuard_true, wGuard_false, wPick_true, wPick_false, wUn_not, wFld_eq, wExt_eq, wPart_one, wPart_agg, wLen_slice, wLen_string, wNew_eq, wNm_eq, dBox_agg, dBox_int, dBox_slice, dBox_string, dBox_bool, dBox_map, dBox_ptr, oneCells, wLd_none, wLd_2, wLd_3, wLd_32, ldP_cells, ldP_rom, cellP_one, getH_same, getH_ne, forceV_eq, forceN_eq, hsK_eq, Option.elim_some, List.getElem?_cons_zero, List.getElem?_cons_succ, Yld.val, decide_true, decide_false, if_true, if_false, Bool.false_eq_true, Nat.zero_add, Nat.add_zero, and_true, true_and, or_false, Bool.not_true, Bool.not_false, and_self, wBin_add64, wBin_sub64, wIdx_slice, wIdx_array, wNilc_eq, Int.toNat_natCast, Nat.mul_one, Nat.zero_mul, wSt_agg, wSt_int, wSt_bool, wSt_string, wSt_slice, wSt_ptr, wSt_map, wSt_func, stP_cells, bit_one, bit_zero, bit_one', bit_zero', wBin_shr32, wBin_and1, wBin_rem2, wBin_andNot32, wBin_or32, wBin_and32, wBin_shl32, u32_eq_zero, u32_ne_zero, List.length_cons, List.length_nil, Nat.le_refl, Nat.reduceAdd, Nat.reduceMul, Nat.reduceLeDiff, Int.toNat_zero, Int.toNat_one]
  by_cases hu : u < i4
  case neg =>
    have hu' : ¬ (u : Int) < (i4 : Int) := by omega
    have hui : u = i4 := by omega
    subst hui
    have hpe : par = parB N v rest := by rw [← hrest] at hpar ⊢; exact par_min hond holt hpar
    have hset : putL (bagsC out) (v * 3) [.int .i64 (v : Int), .int .u32 ((maskOf (keyB N v rest) u : Nat) : Int), .int .i64 par] = bagsC (out.set v (bagOf u N v rest)) := by
      rw [hpe]; exact bagsC_set (b := bagOf u N v rest) (by omega)
    have hbl : (bagsC out).length = u * 3 := by rw [bagsC_length, hol]
    simp (config := { maxSteps := 2000000 }) (disch := first | omega | assumption | exact shr_lt (by assumption) | exact ndiff32 (by assumption) | exact below_lt (by omega) | fail) only [List.getD_cons_zero, List.getD_cons_succ, wBin_lss, wBin_leq, wBin_gtr, wBin_geq, wBin_eql, wBin_neq, wIf_bool, wGuard_true, wGuard_false, wPick_true, wPick_false, wUn_not, wFld_eq, wExt_eq, wPart_one, wPart_agg, wLen_slice, wLen_string, wNew_eq, wNm_eq, dBox_agg, dBox_int, dBox_slice, dBox_string, dBox_bool, dBox_map, dBox_ptr, oneCells, wLd_none, wLd_2, wLd_3, wLd_32, ldP_cells, ldP_rom, cellP_one, getH_same, getH_ne, forceV_eq, forceN_eq, hsK_eq, Option.elim_some, List.getElem?_cons_zero, List.getElem?_cons_succ, Yld.val, decide_true, decide_false, if_true, if_false, Bool.false_eq_true, Nat.zero_add, Nat.add_zero, and_true, true_and, or_false, Bool.not_true, Bool.not_false, and_self, wBin_add64, wBin_sub64, wIdx_slice, wIdx_array, wNilc_eq, Int.toNat_natCast, Nat.mul_one, Nat.zero_mul, wSt_agg, wSt_int, wSt_bool, wSt_string, wSt_slice, wSt_ptr, wSt_map, wSt_func, stP_cells, bit_one, bit_zero, bit_one', bit_zero', wBin_shr32, wBin_and1, wBin_rem2, wBin_andNot32, wBin_or32, wBin_and32, wBin_shl32, u32_eq_zero, u32_ne_zero, List.length_cons, List.length_nil, Nat.le_refl, Nat.reduceAdd, Nat.reduceMul, Nat.reduceLeDiff, Int.toNat_zero, Int.toNat_one, hu', gB8, cellP_lit3, hM8.out, hset, hbl]
    refine ⟨by omega, hih7 (m7 - 1) _ _ _ (by omega) ⟨j + 1, nl8, _, stepN N v rest, by omega, by simp, hM8.setOut (by omega) _, hnl8, fun a ha => ?_, step_ok hNb v rest, by rw [List.length_set]; exact hol, by rw [hrest, ← hout]; rfl, by omega⟩⟩
    rw [hrest] at ha ⊢
    have han : a < u := holt a (List.mem_of_mem_drop (hrest ▸ ha))
    rw [hnv8 a ha, if_pos han]
  have hu' : (u : Int) < (i4 : Int) := by omega
  have kbit : (maskOf (keyB N v rest) i4).testBit u = keyB N v rest u := by rw [maskOf_bit]; simp [hu]
  simp (config := { maxSteps := 2000000 }) (disch := first | omega | assumption | exact shr_lt (by assumption) | exact ndiff32 (by assumption) | exact below_lt (by omega) | fail) only [List.getD_cons_zero, List.getD_cons_succ, wBin_lss, wBin_leq, wBin_gtr, wBin_geq, wBin_eql, wBin_neq, wIf_bool, wGuard_true, wGuard_false, wPick_true, wPick_false, wUn_not, wFld_eq, wExt_eq, wPart_one, wPart_agg, wLen_slice, wLen_string, wNew_eq, wNm_eq, dBox_agg, dBox_int, dBox_slice, dBox_string, dBox_bool, dBox_map, dBox_ptr, oneCells, wLd_none, wLd_2, wLd_3, wLd_32, ldP_cells, ldP_rom, cellP_one, getH_same, getH_ne, forceV_eq, forceN_eq, hsK_eq, Option.elim_some, List.getElem?_cons_zero, List.getElem?_cons_succ, Yld.val, decide_true, decide_false, if_true, if_false, Bool.false_eq_true, Nat.zero_add, Nat.add_zero, and_true, true_and, or_false, Bool.not_true, Bool.not_false, and_self, wBin_add64, wBin_sub64, wIdx_slice, wIdx_array, wNilc_eq, Int.toNat_natCast, Nat.mul_one, Nat.zero_mul, wSt_agg, wSt_int, wSt_bool, wSt_string, wSt_slice, wSt_ptr, wSt_map, wSt_func, stP_cells, bit_one, bit_zero, bit_one', bit_zero', wBin_shr32, wBin_and1, wBin_rem2, wBin_andNot32, wBin_or32, wBin_and32, wBin_shl32, u32_eq_zero, u32_ne_zero, List.length_cons, List.length_nil, Nat.le_refl, Nat.reduceAdd, Nat.reduceMul, Nat.reduceLeDiff, Int.toNat_zero, Int.toNat_one, hu', gB8]
  rw [wJoin_eq, kbit]
  cases hk : keyB N v rest u with
  | false =>
    simp (config := { maxSteps := 2000000 }) (disch := first | omega | assumption | exact shr_lt (by assumption) | exact ndiff32 (by assumption) | exact below_lt (by omega) | fail) only [List.getD_cons_zero, List.getD_cons_succ, wBin_lss, wBin_leq, wBin_gtr, wBin_geq, wBin_eql, wBin_neq, wIf_bool, wGuard_true, wGuard_false, wPick_true, wPick_false, wUn_not, wFld_eq, wExt_eq, wPart_one, wPart_agg, wLen_slice, wLen_string, wNew_eq, wNm_eq, dBox_agg, dBox_int, dBox_slice, dBox_string, dBox_bool, dBox_map, dBox_ptr, oneCells, wLd_none, wLd_2, wLd_3, wLd_32, ldP_cells, ldP_rom, cellP_one, getH_same, getH_ne, forceV_eq, forceN_eq, hsK_eq, Option.elim_some, List.getElem?_cons_zero, List.getElem?_cons_succ, Yld.val, decide_true, decide_false, if_true, if_false, Bool.false_eq_true, Nat.zero_add, Nat.add_zero, and_true, true_and, or_false, Bool.not_true, Bool.not_false, and_self, wBin_add64, wBin_sub64, wIdx_slice, wIdx_array, wNilc_eq, Int.toNat_natCast, Nat.mul_one, Nat.zero_mul, wSt_agg, wSt_int, wSt_bool, wSt_string, wSt_slice, wSt_ptr, wSt_map, wSt_func, stP_cells, bit_one, bit_zero, bit_one', bit_zero', wBin_shr32, wBin_and1, wBin_rem2, wBin_andNot32, wBin_or32, wBin_and32, wBin_shl32, u32_eq_zero, u32_ne_zero, List.length_cons, List.length_nil, Nat.le_refl, Nat.reduceAdd, Nat.reduceMul, Nat.reduceLeDiff, Int.toNat_zero, Int.toNat_one]
    refine hih8 (m8 - 1) _ _ _ (by omega) ⟨u + 1, nl8, par, by omega, by simp, hM8, gB8, hnl8, fun a ha => ?_, ?_, hx8⟩
    · rw [hnv8 a ha]
      by_cases h1 : a < u
      · rw [if_pos h1, if_pos (by omega)]
      · rw [if_neg h1]
        by_cases h2 : a = u
        · subst h2; rw [if_pos (by omega), nb_skip hNb ha hk]
        · rw [if_neg (by omega)]
    · rcases hpar with ⟨h1, h2⟩ | ⟨p, jp, h1, h2, h3, h4⟩
      · refine .inl ⟨h1, fun w hw => ?_⟩
        by_cases hwu : w = u
        · subst hwu; exact hk
        · exact h2 w (by omega)
      · refine .inr ⟨p, jp, h1, h2, h3, fun w jw hw hjw hkw => ?_⟩
        by_cases hwu : w = u
        · subst hwu; rw [hk] at hkw; cases hkw
        · exact h4 w jw (by omega) hjw hkw
  | true =>
    simp (config := { maxSteps := 2000000 }) (disch := first | omega | assumption | exact shr_lt (by assumption) | exact ndiff32 (by assumption) | exact below_lt (by omega) | fail) only [List.getD_cons_zero, List.getD_cons_succ, wBin_lss, wBin_leq, wBin_gtr, wBin_geq, wBin_eql, wBin_neq, wIf_bool, wGuard_true, wGuard_false, wPick_true, wPick_false, wUn_not, wFld_eq, wExt_eq, wPart_one, wPart_agg, wLen_slice, wLen_string, wNew_eq, wNm_eq, dBox_agg, dBox_int, dBox_slice, dBox_string, dBox_bool, dBox_map, dBox_ptr, oneCells, wLd_none, wLd_2, wLd_3, wLd_32, ldP_cells, ldP_rom, cellP_one, getH_same, getH_ne, forceV_eq, forceN_eq, hsK_eq, Option.elim_some, List.getElem?_cons_zero, List.getElem?_cons_succ, Yld.val, decide_true, decide_false, if_true, if_false, Bool.false_eq_true, Nat.zero_add, Nat.add_zero, and_true, true_and, or_false, Bool.not_true, Bool.not_false, and_self, wBin_add64, wBin_sub64, wIdx_slice, wIdx_array, wNilc_eq, Int.toNat_natCast, Nat.mul_one, Nat.zero_mul, wSt_agg, wSt_int, wSt_bool, wSt_string, wSt_slice, wSt_ptr, wSt_map, wSt_func, stP_cells, bit_one, bit_zero, bit_one', bit_zero', wBin_shr32, wBin_and1, wBin_rem2, wBin_andNot32, wBin_or32, wBin_and32, wBin_shl32, u32_eq_zero, u32_ne_zero, List.length_cons, List.length_nil, Nat.le_refl, Nat.reduceAdd, Nat.reduceMul, Nat.reduceLeDiff, Int.toNat_zero, Int.toNat_one]
    have hur : u ∈ rest := by simp [keyB] at hk; exact hk.2
    obtain ⟨ju, hju⟩ : ∃ ju, order[ju]? = some u := List.getElem?_of_mem (List.mem_of_mem_drop (hrest ▸ hur))
    have hP8 := (hM8.same (nx2 + 1) (by omega) (by omega) (by omega)).trans hP6
    have gu := i64s_get (hpv ju u hju (by have := lt_len hju; omega))
    refine wJoin_rule (fun L H' nx' => ∃ par', L = [] ∧ M13 K5 (nx5 + 1 + 1) nx5 (nx5 + 1) nl8 out H' ∧ getH H' nx7 = some (.cells [.int .i64 (v : Int), .int .u32 ((maskOf (keyB N v rest) i4 : Nat) : Int), .int .i64 par'] 0) ∧ ParI N v order rest (u + 1) par' ∧ nx7 + 1 ≤ nx') ?_ ?_
    · intro jk hjk
      rw [wJoin_eq]
      have hput : ∀ a b c x : Value, putL [a, b, c] 2 [x] = [a, b, x] := fun _ _ _ _ => rfl
      have hnew : ParI N v order rest (u + 1) u → ∀ nx', nx7 + 1 ≤ nx' → jk [] (hs H8 nx7 (some (.cells [.int .i64 (v : Int), .int .u32 ((maskOf (keyB N v rest) i4 : Nat) : Int), .int .i64 (u : Int)] 0))) nx' :=
        fun h nx' hx => hjk _ _ _ ⟨u, rfl, hM8.setNew hx7 (by omega) (by omega) _, getH_same _ _ _, h, hx⟩
      rcases hpar with ⟨rfl, h2⟩ | ⟨p, jp, rfl, h2, h3, h4⟩
      · have hneg : (-1 : Int) < 0 := by omega
        simp (config := { maxSteps := 2000000 }) (disch := first | omega | assumption | exact shr_lt (by assumption) | exact ndiff32 (by assumption) | exact below_lt (by omega) | fail) only [List.getD_cons_zero, List.getD_cons_succ, wBin_lss, wBin_leq, wBin_gtr, wBin_geq, wBin_eql, wBin_neq, wIf_bool, wGuard_true, wGuard_false, wPick_true, wPick_false, wUn_not, wFld_eq, wExt_eq, wPart_one, wPart_agg, wLen_slice, wLen_string, wNew_eq, wNm_eq, dBox_agg, dBox_int, dBox_slice, dBox_string, dBox_bool, dBox_map, dBox_ptr, oneCells, wLd_none, wLd_2, wLd_3, wLd_32, ldP_cells, ldP_rom, cellP_one, getH_same, getH_ne, forceV_eq, forceN_eq, hsK_eq, Option.elim_some, List.getElem?_cons_zero, List.getElem?_cons_succ, Yld.val, decide_true, decide_false, if_true, if_false, Bool.false_eq_true, Nat.zero_add, Nat.add_zero, and_true, true_and, or_false, Bool.not_true, Bool.not_false, and_self, wBin_add64, wBin_sub64, wIdx_slice, wIdx_array, wNilc_eq, Int.toNat_natCast, Nat.mul_one, Nat.zero_mul, wSt_agg, wSt_int, wSt_bool, wSt_string, wSt_slice, wSt_ptr, wSt_map, wSt_func, stP_cells, bit_one, bit_zero, bit_one', bit_zero', wBin_shr32, wBin_and1, wBin_rem2, wBin_andNot32, wBin_or32, wBin_and32, wBin_shl32, u32_eq_zero, u32_ne_zero, List.length_cons, List.length_nil, Nat.le_refl, Nat.reduceAdd, Nat.reduceMul, Nat.reduceLeDiff, Int.toNat_zero, Int.toNat_one, gB8, hneg, hput]
        refine hnew (.inr ⟨u, ju, rfl, hju, hk, fun w jw hw hjw hkw => ?_⟩) _ (by omega)
        by_cases hwu : w = u
        · subst hwu; rw [nodup_at hond hju hjw]; exact Nat.le_refl _
        · rw [h2 w (by omega)] at hkw; cases hkw
      · have hpn : ¬ (p : Int) < 0 := by omega
        have hp4 : p < i4 := holt p (List.mem_of_getElem? h2)
        have gp := i64s_get (hpv jp p h2 (by have := lt_len h2; omega))
        by_cases hlt : ju < jp
        · have hlt' : (ju : Int) < (jp : Int) := by omega
          simp (config := { maxSteps := 2000000 }) (disch := first | omega | assumption | exact shr_lt (by assumption) | exact ndiff32 (by assumption) | exact below_lt (by omega) | fail) only [List.getD_cons_zero, List.getD_cons_succ, wBin_lss, wBin_leq, wBin_gtr, wBin_geq, wBin_eql, wBin_neq, wIf_bool, wGuard_true, wGuard_false, wPick_true, wPick_false, wUn_not, wFld_eq, wExt_eq, wPart_one, wPart_agg, wLen_slice, wLen_string, wNew_eq, wNm_eq, dBox_agg, dBox_int, dBox_slice, dBox_string, dBox_bool, dBox_map, dBox_ptr, oneCells, wLd_none, wLd_2, wLd_3, wLd_32, ldP_cells, ldP_rom, cellP_one, getH_same, getH_ne, forceV_eq, forceN_eq, hsK_eq, Option.elim_some, List.getElem?_cons_zero, List.getElem?_cons_succ, Yld.val, decide_true, decide_false, if_true, if_false, Bool.false_eq_true, Nat.zero_add, Nat.add_zero, and_true, true_and, or_false, Bool.not_true, Bool.not_false, and_self, wBin_add64, wBin_sub64, wIdx_slice, wIdx_array, wNilc_eq, Int.toNat_natCast, Nat.mul_one, Nat.zero_mul, wSt_agg, wSt_int, wSt_bool, wSt_string, wSt_slice, wSt_ptr, wSt_map, wSt_func, stP_cells, bit_one, bit_zero, bit_one', bit_zero', wBin_shr32, wBin_and1, wBin_rem2, wBin_andNot32, wBin_or32, wBin_and32, wBin_shl32, u32_eq_zero, u32_ne_zero, List.length_cons, List.length_nil, Nat.le_refl, Nat.reduceAdd, Nat.reduceMul, Nat.reduceLeDiff, Int.toNat_zero, Int.toNat_one, gB8, hpn, hP8, gu, gp, hlt', hput]
          refine hnew (.inr ⟨u, ju, rfl, hju, hk, fun w jw hw hjw hkw => ?_⟩) _ (by omega)
          by_cases hwu : w = u
          · subst hwu; rw [nodup_at hond hju hjw]; exact Nat.le_refl _
          · have := h4 w jw (by omega) hjw hkw; omega
        · have hlt' : ¬ (ju : Int) < (jp : Int) := by omega
          simp (config := { maxSteps := 2000000 }) (disch := first | omega | assumption | exact shr_lt (by assumption) | exact ndiff32 (by assumption) | exact below_lt (by omega) | fail) only [List.getD_cons_zero, List.getD_cons_succ, wBin_lss, wBin_leq, wBin_gtr, wBin_geq, wBin_eql, wBin_neq, wIf_bool, wGuard_true, wGuard_false, wPick_true, wPick_false, wUn_not, wFld_eq, wExt_eq, wPart_one, wPart_agg, wLen_slice, wLen_string, wNew_eq, wNm_eq, dBox_agg, dBox_int, dBox_slice, dBox_string, dBox_bool, dBox_map, dBox_ptr, oneCells, wLd_none, wLd_2, wLd_3, wLd_32, ldP_cells, ldP_rom, cellP_one, getH_same, getH_ne, forceV_eq, forceN_eq, hsK_eq, Option.elim_some, List.getElem?_cons_zero, List.getElem?_cons_succ, Yld.val, decide_true, decide_false, if_true, if_false, Bool.false_eq_true, Nat.zero_add, Nat.add_zero, and_true, true_and, or_false, Bool.not_true, Bool.not_false, and_self, wBin_add64, wBin_sub64, wIdx_slice, wIdx_array, wNilc_eq, Int.toNat_natCast, Nat.mul_one, Nat.zero_mul, wSt_agg, wSt_int, wSt_bool, wSt_string, wSt_slice, wSt_ptr, wSt_map, wSt_func, stP_cells, bit_one, bit_zero, bit_one', bit_zero', wBin_shr32, wBin_and1, wBin_rem2, wBin_andNot32, wBin_or32, wBin_and32, wBin_shl32, u32_eq_zero, u32_ne_zero, List.length_cons, List.length_nil, Nat.le_refl, Nat.reduceAdd, Nat.reduceMul, Nat.reduceLeDiff, Int.toNat_zero, Int.toNat_one, gB8, hpn, hP8, gu, gp, hlt']
          refine hjk _ _ _ ⟨p, rfl, hM8, gB8, .inr ⟨p, jp, rfl, h2, h3, fun w jw hw hjw hkw => ?_⟩, by omega⟩
          by_cases hwu : w = u
          · subst hwu; rw [← nodup_at hond hju hjw]; omega
          · exact h4 w jw (by omega) hjw hkw
    · rintro _ H9 nx9 ⟨par', rfl, hM9, gB9, hpar9, hx9⟩
      have hcur := hnv8 u hur
      rw [if_neg (by omega)] at hcur
      have gcur := u32s_get hcur
      have hc32 := maskOf32 hn (keyB N u (v :: rest))
      have hu32 : 2 ^ u < 4294967296 := pow32 (by omega)
      have hv32 : 2 ^ v < 4294967296 := pow32 (by omega)
      have ho1 := or32 hc32 hkey32
      have ho2 := or32 hu32 hv32
      have hul : u < nl8.length := by omega
      have hlen9 : (u32s nl8).length = 32 := by rw [u32s_length]; exact hnl8
      have hnb := nb_step hNb (n := i4) hvr hk
      simp (config := { maxSteps := 2000000 }) (disch := first | omega | assumption | exact shr_lt (by assumption) | exact ndiff32 (by assumption) | exact below_lt (by omega) | fail) only [List.getD_cons_zero, List.getD_cons_succ, wBin_lss, wBin_leq, wBin_gtr, wBin_geq, wBin_eql, wBin_neq, wIf_bool, wGuard_true, wGuard_false, wPick_true, wPick_false, wUn_not, wFld_eq, wExt_eq, wPart_one, wPart_agg, wLen_slice, wLen_string, wNew_eq, wNm_eq, dBox_agg, dBox_int, dBox_slice, dBox_string, dBox_bool, dBox_map, dBox_ptr, oneCells, wLd_none, wLd_2, wLd_3, wLd_32, ldP_cells, ldP_rom, cellP_one, getH_same, getH_ne, forceV_eq, forceN_eq, hsK_eq, Option.elim_some, List.getElem?_cons_zero, List.getElem?_cons_succ, Yld.val, decide_true, decide_false, if_true, if_false, Bool.false_eq_true, Nat.zero_add, Nat.add_zero, and_true, true_and, or_false, Bool.not_true, Bool.not_false, and_self, wBin_add64, wBin_sub64, wIdx_slice, wIdx_array, wNilc_eq, Int.toNat_natCast, Nat.mul_one, Nat.zero_mul, wSt_agg, wSt_int, wSt_bool, wSt_string, wSt_slice, wSt_ptr, wSt_map, wSt_func, stP_cells, bit_one, bit_zero, bit_one', bit_zero', wBin_shr32, wBin_and1, wBin_rem2, wBin_andNot32, wBin_or32, wBin_and32, wBin_shl32, u32_eq_zero, u32_ne_zero, List.length_cons, List.length_nil, Nat.le_refl, Nat.reduceAdd, Nat.reduceMul, Nat.reduceLeDiff, Int.toNat_zero, Int.toNat_one, hM9.near, gcur, gB9, putL_u32s hul, hlen9]
      refine ⟨by omega, hih8 (m8 - 1) _ _ _ (by omega) ⟨u + 1, nl8.set u (ndiff (maskOf (keyB N u (v :: rest)) i4 ||| maskOf (keyB N v rest) i4) (2 ^ u ||| 2 ^ v)), par', by omega, by simp, hM9.setNear (by omega) _, by rw [getH_ne _ (by omega)]; exact gB9, by rw [List.length_set]; exact hnl8, fun a ha => ?_, hpar9, by omega⟩⟩
      rw [List.getElem?_set]
      by_cases h2 : u = a
      · subst h2; rw [if_pos rfl, if_pos hul, if_pos (by omega), hnb]
      · rw [if_neg h2, hnv8 a ha]
        by_cases h1 : a < u
        · rw [if_pos h1, if_pos (by omega)]
        · rw [if_neg h1, if_neg (by omega)]
end Go.Proofs.Ytaieijjfabbfeaa

set_option linter.unusedSimpArgs false
set_option linter.unusedVariables false
set_option linter.unusedSectionVars false
namespace Go.Proofs.Ytaieijjfabbfeaa
open Go.Clo

/-- The neighbors before step j. -/
def iter : Nb → List Nat → Nat → Nb
  | N, _, 0 => N
  | N, [], _ + 1 => N
  | N, v :: rest, j + 1 => iter (stepN N v rest) rest j
theorem iter_succ : ∀ {order : List Nat} {N : Nb} {j v : Nat}, order[j]? = some v → iter N order (j + 1) = stepN (iter N order j) v (order.drop (j + 1))
  | [], N, j, v, h => by simp at h
  | x :: rest, N, 0, v, h => by
    simp at h; subst h
    show iter (stepN N x rest) rest 0 = _
    cases rest <;> rfl
  | x :: rest, N, j + 1, v, h => by
    have h2 : rest[j]? = some v := by simpa using h
    show iter (stepN N x rest) rest (j + 1) = stepN (iter (stepN N x rest) rest j) v _
    rw [iter_succ h2]; rfl
theorem iter_mono {order : List Nat} {N : Nb} {a b j : Nat} (h : iter N order j a b = true) : ∀ k, j ≤ k → k ≤ order.length → iter N order k a b = true
  | 0, hk, _ => by
    have : j = 0 := by omega
    subst this; exact h
  | k + 1, hk, hl => by
    by_cases hjk : j = k + 1
    · subst hjk; exact h
    · have ih := iter_mono h k (by omega) (by omega)
      rw [iter_succ (List.getElem?_eq_getElem (by omega))]
      simp [stepN, ih]
theorem outs_not {n : Nat} : ∀ {order : List Nat} {out : List Bag} {N : Nb} {v : Nat}, v ∉ order → (outs n out N order)[v]? = out[v]?
  | [], _, _, _, _ => rfl
  | x :: rest, out, N, v, h => by
    simp only [List.mem_cons, not_or] at h
    rw [outs, outs_not h.2, List.getElem?_set, if_neg (fun e => h.1 e.symm)]
theorem outs_get {n : Nat} : ∀ {order : List Nat} {out : List Bag} {N : Nb} {j v : Nat}, order.Nodup → (∀ w ∈ order, w < out.length) → order[j]? = some v → (outs n out N order)[v]? = some (bagOf n (iter N order j) v (order.drop (j + 1)))
  | [], _, _, _, _, _, _, h => by simp at h
  | x :: rest, out, N, 0, v, hnd, hlt, h => by
    simp at h; subst h
    rw [List.nodup_cons] at hnd
    rw [outs, outs_not hnd.1, List.getElem?_set, if_pos rfl, if_pos (hlt x List.mem_cons_self)]; rfl
  | x :: rest, out, N, j + 1, v, hnd, hlt, h => by
    rw [List.nodup_cons] at hnd
    have h2 : rest[j]? = some v := by simpa using h
    rw [outs, outs_get hnd.2 (fun w hw => by rw [List.length_set]; exact hlt w (List.mem_cons_of_mem _ hw)) h2]; rfl

theorem lt_of_bits2 {x v : Nat} (h : ∀ i, v ≤ i → x.testBit i = false) : x < 2 ^ v := Nat.lt_pow_two_of_testBit x h

theorem mem_drop_at {order : List Nat} {j w : Nat} (h : w ∈ order.drop (j + 1)) : ∃ k, j < k ∧ order[k]? = some w := by
  obtain ⟨s, hs, e⟩ := List.getElem_of_mem h
  exact ⟨j + 1 + s, by omega, by rw [← e, ← List.getElem?_drop]; exact List.getElem?_eq_getElem hs⟩
theorem at_mem_drop {order : List Nat} {j k w : Nat} (hjk : j < k) (h : order[k]? = some w) : w ∈ order.drop (j + 1) := by
  have : (order.drop (j + 1))[k - (j + 1)]? = some w := by rw [List.getElem?_drop]; rw [show j + 1 + (k - (j + 1)) = k by omega]; exact h
  exact List.mem_of_getElem? this

theorem key_bit {n : Nat} {N : Nb} {v w : Nat} {rest : List Nat} : (maskOf (keyB N v rest) n).testBit w = (decide (w < n) && (N v w && decide (w ∈ rest))) := by rw [maskOf_bit]; rfl

/-- The parent of a bag: none, or the first later neighbor. -/
theorem par_cases (n : Nat) (N : Nb) (v : Nat) (order : List Nat) (j : Nat) (hlt : ∀ w ∈ order, w < n) :
    (parB N v (order.drop (j + 1)) = -1 ∧ maskOf (keyB N v (order.drop (j + 1))) n = 0) ∨
    ∃ w k : Nat, parB N v (order.drop (j + 1)) = w ∧ j < k ∧ order[k]? = some w ∧ N v w = true ∧ w < n ∧ ∀ (k' : Nat) (w' : Nat), j < k' → k' < k → order[k']? = some w' → N v w' = false := by
  unfold parB
  cases hf : (order.drop (j + 1)).find? (N v) with
  | none =>
    rw [List.find?_eq_none] at hf
    refine .inl ⟨rfl, ?_⟩
    apply Nat.eq_of_testBit_eq
    intro i
    rw [key_bit, Nat.zero_testBit]
    by_cases hi : i ∈ order.drop (j + 1)
    · have := hf i hi
      simp at this; simp [this]
    · simp [hi]
  | some w0 =>
    obtain ⟨hw0, t, ht, hte, hbefore⟩ := List.find?_eq_some_iff_getElem.mp hf
    have h0 : order[j + 1 + t]? = some w0 := by
      rw [← hte, ← List.getElem?_drop]; exact List.getElem?_eq_getElem ht
    refine .inr ⟨w0, j + 1 + t, rfl, by omega, h0, hw0, hlt w0 (List.mem_of_getElem? h0), fun k' w' h1 h2 h3 => ?_⟩
    have hb := hbefore (k' - (j + 1)) (by omega)
    have e : (order.drop (j + 1))[k' - (j + 1)]? = some w' := by rw [List.getElem?_drop, show j + 1 + (k' - (j + 1)) = k' by omega]; exact h3
    rw [(List.getElem?_eq_some_iff.mp e).2] at hb
    simpa using hb

theorem good_bags {n f : Nat} {es : List Nat} {l : List Int} {order : List Nat} (hn : n ≤ 32) (hes : ∀ e ∈ es, e < 2 ^ n) (hp : permOK l f n) (hord : l ++ downTo f f = order.map fun (w : Nat) => (w : Int)) (hnd : order.Nodup) (hlt : ∀ w ∈ order, w < n) (hlen : order.length = n) :
    ccode n f es (outs n (List.replicate n zeroBag) (adj es) order) = 0 := by
  generalize hbs : outs n (List.replicate n zeroBag) (adj es) order = bs
  have hbl : bs.length = n := by rw [← hbs, outs_len]; simp
  have hget : ∀ (j v : Nat), order[j]? = some v → bs[v]? = some (bagOf n (iter (adj es) order j) v (order.drop (j + 1))) := fun j v h => by
    rw [← hbs]; exact outs_get hnd (fun w hw => by simp; exact hlt w hw) h
  have hidx : ∀ v, v < n → ∃ j, order[j]? = some v := fun v hv => List.getElem?_of_mem (order_all hnd hlt hlen hv)
  have hinv : ∀ (v : Nat) (b : Bag), bs[v]? = some b → ∃ j, order[j]? = some v ∧ b = bagOf n (iter (adj es) order j) v (order.drop (j + 1)) := fun v b hb => by
    obtain ⟨j, hj⟩ := hidx v (by have := lt_len hb; omega)
    have := hget j v hj
    rw [hb] at this; cases this
    exact ⟨j, hj, rfl⟩
  -- the places of the free variables
  have hdown : ∀ (j v : Nat), order[j]? = some v → v < f → ∀ w ∈ order.drop (j + 1), w < v := by
    have hval : ∀ (j v : Nat), order[j]? = some v → v < f → l.length ≤ j ∧ (v : Int) = (f : Int) - 1 - (j - l.length : Nat) := by
      intro j v hj hv
      have h1 : (l ++ downTo f f)[j]? = some (v : Int) := by rw [hord]; simp [hj]
      by_cases hjl : j < l.length
      · rw [List.getElem?_append_left hjl] at h1
        have := hp.2.1 _ (List.mem_of_getElem? h1)
        omega
      · rw [List.getElem?_append_right (by omega)] at h1
        have hj2 : j - l.length < f := by have := lt_len h1; rw [downTo_length] at this; exact this
        rw [downTo_get hj2] at h1
        refine ⟨by omega, ?_⟩
        have h3 : (f : Int) - 1 - (j - l.length : Nat) = (v : Int) := Option.some.inj h1
        omega
    intro j v hj hv w hw
    obtain ⟨k, hjk, hk⟩ := mem_drop_at hw
    obtain ⟨h1, h2⟩ := hval j v hj hv
    have h3 : (l ++ downTo f f)[k]? = some (w : Int) := by rw [hord]; simp [hk]
    rw [List.getElem?_append_right (by omega)] at h3
    have hk2 : k - l.length < f := by have := lt_len h3; rw [downTo_length] at this; exact this
    rw [downTo_get hk2] at h3
    have h4 : (f : Int) - 1 - (k - l.length : Nat) = (w : Int) := Option.some.inj h3
    omega
  have hb0 : ∀ (v : Nat) (b : Bag), bs[v]? = some b → bcode n f v b = 0 := by
    intro v b hb
    obtain ⟨j, hj, rfl⟩ := hinv v b hb
    generalize hN : iter (adj es) order j = N
    have hvr : v ∉ order.drop (j + 1) := not_mem_drop hnd hj
    have hself : (maskOf (keyB N v (order.drop (j + 1))) n).testBit v = false := by rw [key_bit]; simp [hvr]
    have hk2 : ¬ 2 ^ n ≤ maskOf (keyB N v (order.drop (j + 1))) n := by have := maskOf_lt (keyB N v (order.drop (j + 1))) n; omega
    unfold bcode bagOf
    simp only
    rw [if_neg (by simp [hself]; omega)]
    rw [if_neg (by
      rintro ⟨hvf, hge⟩
      have : maskOf (keyB N v (order.drop (j + 1))) n < 2 ^ v := lt_of_bits2 fun i hi => by
        rw [key_bit]
        by_cases hm : i ∈ order.drop (j + 1)
        · have := hdown j v hj hvf i hm; omega
        · simp [hm]
      omega)]
    rcases par_cases n N v order j hlt with ⟨h1, h2⟩ | ⟨w, k, h1, h2, h3, h4, h5, _⟩
    · rw [if_neg (by rw [h1, h2]; simp)]
    · have hbw : (maskOf (keyB N v (order.drop (j + 1))) n).testBit w = true := by rw [key_bit]; simp [h5, h4, at_mem_drop h2 h3]
      have hne : maskOf (keyB N v (order.drop (j + 1))) n ≠ 0 := by intro e; rw [e] at hbw; simp at hbw
      rw [if_neg (by
        rw [h1]
        rintro (⟨e, _⟩ | ⟨_, e | e | e⟩)
        · exact hne e
        · omega
        · omega
        · rw [Int.toNat_natCast, hbw] at e; cases e)]
  have hbad : badAt n f bs 0 = 0 := badAt_none fun j b hb => hb0 j b hb
  have hpar : ∀ (j v : Nat), order[j]? = some v → ∀ b, bs[v]? = some b → b.par < 0 ∨ ∃ w k : Nat, b.par = w ∧ j < k ∧ order[k]? = some w := by
    intro j v hj b hb
    rw [hget j v hj] at hb; cases hb
    rcases par_cases n (iter (adj es) order j) v order j hlt with ⟨h1, _⟩ | ⟨w, k, h1, h2, h3, _⟩
    · exact .inl (by simp only [bagOf]; omega)
    · exact .inr ⟨w, k, h1, h2, h3⟩
  have hup : ¬ ∃ v : Nat, v < n ∧ 0 ≤ up bs n v := by
    rintro ⟨v, hv, h0⟩
    have key : ∀ k, 0 ≤ up bs k v → ∃ w j : Nat, up bs k v = w ∧ k ≤ j ∧ order[j]? = some w := by
      intro k
      induction k with
      | zero => intro _; obtain ⟨j, hj⟩ := hidx v hv; exact ⟨v, j, rfl, by omega, hj⟩
      | succ k ih =>
        intro h
        have hk : 0 ≤ up bs k v := by
          rcases int_lt_or_ge (up bs k v) 0 with g | g
          · have := up_neg g (k + 1) (by omega); omega
          · exact g
        obtain ⟨w, j, h1, h2, h3⟩ := ih hk
        have hbw := hget j w h3
        have hst := up_step h1 hbw
        rcases hpar j w h3 _ hbw with h4 | ⟨w', k', h4, h5, h6⟩
        · rw [hst] at h; omega
        · exact ⟨w', k', by rw [hst]; exact h4, by omega, h6⟩
    obtain ⟨w, j, _, h2, h3⟩ := key n h0
    have := lt_len h3; omega
  have hfit : ¬ ∃ b ∈ bs, ¬ fits1 bs b := by
    rintro ⟨b, hb, hnot⟩
    refine hnot ?_
    obtain ⟨v, hv, hvb⟩ := List.getElem_of_mem hb
    obtain ⟨j, hj, rfl⟩ := hinv v b (by rw [← hvb]; exact List.getElem?_eq_getElem hv)
    intro hp0 q hq i hi
    rcases par_cases n (iter (adj es) order j) v order j hlt with ⟨h1, _⟩ | ⟨w, k, h1, h2, h3, h4, h5, h6⟩
    · simp only [bagOf] at hp0; omega
    · have e : (bagOf n (iter (adj es) order j) v (order.drop (j + 1))).par = (w : Int) := h1
      rw [e, Int.toNat_natCast] at hq ⊢
      rw [hget k w h3] at hq; cases hq
      have hi2 : (maskOf (keyB (iter (adj es) order j) v (order.drop (j + 1))) n).testBit i = true := hi
      rw [key_bit] at hi2
      simp only [Bool.and_eq_true, decide_eq_true_eq] at hi2
      obtain ⟨hin, hNi, him⟩ := hi2
      rw [Nat.testBit_or, Nat.testBit_two_pow]
      by_cases hiw : i = w
      · subst hiw; simp
      · obtain ⟨ki, hki, hki2⟩ := mem_drop_at him
        have hkk : k < ki := by
          rcases Nat.lt_trichotomy ki k with g | g | g
          · rw [h6 ki i hki g hki2] at hNi; cases hNi
          · subst g; rw [h3] at hki2; cases hki2; exact absurd rfl hiw
          · exact g
        have hjn : iter (adj es) order (j + 1) w i = true := by
          rw [iter_succ hj]
          have hwm : w ∈ order.drop (j + 1) := at_mem_drop h2 h3
          have hwi : decide (w ≠ i) = true := by simp; exact fun e => hiw e.symm
          have e1 : keyB (iter (adj es) order j) v (order.drop (j + 1)) w = true := by simp only [keyB, h4, hwm, decide_true, Bool.and_self]
          have e2 : keyB (iter (adj es) order j) v (order.drop (j + 1)) i = true := by simp only [keyB, hNi, him, decide_true, Bool.and_self]
          unfold stepN
          rw [hwi, e1, e2]; simp
        have := iter_mono hjn k (by omega) (by have := lt_len h3; omega)
        show ((maskOf (keyB (iter (adj es) order k) w (order.drop (k + 1))) n).testBit i || _) = true
        rw [key_bit]
        simp [hin, this, at_mem_drop hkk hki2]
  have hcov : ¬ ∃ e ∈ es, ¬ covers bs e := by
    rintro ⟨e, he, hnot⟩
    refine hnot ?_
    have hen := hes e he
    cases hf : order.find? (fun w => e.testBit w) with
    | none =>
      rw [List.find?_eq_none] at hf
      refine .inl (Nat.eq_of_testBit_eq fun i => ?_)
      rw [Nat.zero_testBit]
      by_cases hi : i < n
      · have := hf i (order_all hnd hlt hlen hi)
        simpa using this
      · exact Nat.testBit_lt_two_pow (Nat.lt_of_lt_of_le hen (Nat.pow_le_pow_right (by omega) (by omega)))
    | some v =>
      obtain ⟨hv, j, hjl, hje, hbefore⟩ := List.find?_eq_some_iff_getElem.mp hf
      have hj : order[j]? = some v := by rw [← hje]; exact List.getElem?_eq_getElem hjl
      refine .inr ⟨_, List.mem_of_getElem? (hget j v hj), fun i hi => ?_⟩
      have hvn : v < n := hlt v (List.mem_of_getElem? hj)
      rw [setOf_var (v := v) rfl (by omega), Nat.testBit_or, Nat.testBit_two_pow]
      by_cases hiv : i = v
      · subst hiv; simp
      · have hin : i < n := by
          rcases Nat.lt_or_ge i n with g | g
          · exact g
          · rw [Nat.testBit_lt_two_pow (Nat.lt_of_lt_of_le hen (Nat.pow_le_pow_right (by omega) g))] at hi; cases hi
        obtain ⟨k, hk⟩ := hidx i hin
        have hjk : j < k := by
          rcases Nat.lt_trichotomy k j with g | g | g
          · have h1 := hbefore k g
            rw [(List.getElem?_eq_some_iff.mp hk).2] at h1
            simp [hi] at h1
          · subst g; rw [hj] at hk; cases hk; exact absurd rfl hiv
          · exact g
        have hadj : iter (adj es) order 0 v i = true := by
          have : adj es v i = true := by
            simp only [adj, Bool.and_eq_true, decide_eq_true_eq, List.any_eq_true]
            exact ⟨fun e => hiv e.symm, e, he, hv, hi⟩
          cases order <;> exact this
        have := iter_mono hadj j (by omega) (by omega)
        show ((maskOf (keyB (iter (adj es) order j) v (order.drop (j + 1))) n).testBit i || _) = true
        rw [key_bit]
        simp [hin, this, at_mem_drop hjk hk]
  unfold ccode
  rw [if_neg (by simpa using hbl), if_neg (by simpa using hbad), if_neg hup, if_neg hfit, if_neg hcov]
end Go.Proofs.Ytaieijjfabbfeaa

set_option linter.unusedSimpArgs false
set_option linter.unusedVariables false
set_option linter.unusedSectionVars false
namespace Go.Proofs.Ytaieijjfabbfeaa
open Go.Clo

theorem outs_key {n : Nat} (hn : n ≤ 32) : ∀ (order : List Nat) (out : List Bag) (N : Nb), KeyOK out → KeyOK (outs n out N order)
  | [], _, _, h => h
  | v :: rest, out, N, h => outs_key hn rest _ _ fun b hb => by
    rcases List.mem_or_eq_of_mem_set hb with hb | rfl
    · exact h b hb
    · exact maskOf32 hn _

set_option maxHeartbeats 4000000 in
theorem law4 (N free : Int) (A : Option Addr) (es : List Nat) (cap : Nat) (P : Option Addr) (l : List Int) (capP : Nat) (H : Heap) (nx : Nat) (hS : Sl H nx A (u32s es)) (hsm : Small es) (hP : Sl H nx P (i64s l)) (hP0 : Has H nx P) :
    Ans Try.prog 4 [gv N A es.length cap, .int .i64 free, .slice P l.length capP] H nx fun r _ _ => r = .bool true := by
  refine spec4 ?_
  unfold F4
  have hE1 : Ext H nx (hs H nx (some (.cells [.int .i64 N, .slice A es.length cap] 0))) (nx + 1) := (Ext.refl H nx).new _ (Nat.le_refl _) (by omega)
  simp (config := { maxSteps := 2000000 }) (disch := first | omega | assumption | exact shr_lt (by assumption) | exact ndiff32 (by assumption) | exact below_lt (by omega) | fail) only [List.getD_cons_zero, List.getD_cons_succ, wBin_lss, wBin_leq, wBin_gtr, wBin_geq, wBin_eql, wBin_neq, wIf_bool, wGuard_true, wGuard_false, wPick_true, wPick_false, wUn_not, wFld_eq, wExt_eq, wPart_one, wPart_agg, wLen_slice, wLen_string, wNew_eq, wNm_eq, dBox_agg, dBox_int, dBox_slice, dBox_string, dBox_bool, dBox_map, dBox_ptr, oneCells, wLd_none, wLd_2, wLd_3, wLd_32, ldP_cells, ldP_rom, cellP_one, getH_same, getH_ne, forceV_eq, forceN_eq, hsK_eq, Option.elim_some, List.getElem?_cons_zero, List.getElem?_cons_succ, Yld.val, decide_true, decide_false, if_true, if_false, Bool.false_eq_true, Nat.zero_add, Nat.add_zero, and_true, true_and, or_false, Bool.not_true, Bool.not_false, and_self, wBin_add64, wBin_sub64, wIdx_slice, wIdx_array, wNilc_eq, Int.toNat_natCast, Nat.mul_one, Nat.zero_mul, wSt_agg, wSt_int, wSt_bool, wSt_string, wSt_slice, wSt_ptr, wSt_map, wSt_func, stP_cells, bit_one, bit_zero, bit_one', bit_zero', wBin_shr32, wBin_and1, wBin_rem2, wBin_andNot32, wBin_or32, wBin_and32, wBin_shl32, u32_eq_zero, u32_ne_zero, List.length_cons, List.length_nil, Nat.le_refl, Nat.reduceAdd, Nat.reduceMul, Nat.reduceLeDiff, Int.toNat_zero, Int.toNat_one, wJoin_eq]
  by_cases hbig : 70 < es.length ∨ 40 < l.length
  case pos =>
    rcases hbig with h | h
    · have h1 : (es.length : Int) > 70 := by omega
      simp (config := { maxSteps := 2000000 }) (disch := first | omega | assumption | exact shr_lt (by assumption) | exact ndiff32 (by assumption) | exact below_lt (by omega) | fail) only [List.getD_cons_zero, List.getD_cons_succ, wBin_lss, wBin_leq, wBin_gtr, wBin_geq, wBin_eql, wBin_neq, wIf_bool, wGuard_true, wGuard_false, wPick_true, wPick_false, wUn_not, wFld_eq, wExt_eq, wPart_one, wPart_agg, wLen_slice, wLen_string, wNew_eq, wNm_eq, dBox_agg, dBox_int, dBox_slice, dBox_string, dBox_bool, dBox_map, dBox_ptr, oneCells, wLd_none, wLd_2, wLd_3, wLd_32, ldP_cells, ldP_rom, cellP_one, getH_same, getH_ne, forceV_eq, forceN_eq, hsK_eq, Option.elim_some, List.getElem?_cons_zero, List.getElem?_cons_succ, Yld.val, decide_true, decide_false, if_true, if_false, Bool.false_eq_true, Nat.zero_add, Nat.add_zero, and_true, true_and, or_false, Bool.not_true, Bool.not_false, and_self, wBin_add64, wBin_sub64, wIdx_slice, wIdx_array, wNilc_eq, Int.toNat_natCast, Nat.mul_one, Nat.zero_mul, wSt_agg, wSt_int, wSt_bool, wSt_string, wSt_slice, wSt_ptr, wSt_map, wSt_func, stP_cells, bit_one, bit_zero, bit_one', bit_zero', wBin_shr32, wBin_and1, wBin_rem2, wBin_andNot32, wBin_or32, wBin_and32, wBin_shl32, u32_eq_zero, u32_ne_zero, List.length_cons, List.length_nil, Nat.le_refl, Nat.reduceAdd, Nat.reduceMul, Nat.reduceLeDiff, Int.toNat_zero, Int.toNat_one, h1]
      refine wCall_rule (awake7 _ _) ?_
      rintro _ _ _ ⟨rfl, rfl, rfl⟩
      simp (disch := first | omega | assumption | exact shr_lt (by assumption) | exact ndiff32 (by assumption) | exact below_lt (by omega) | fail) only [List.getD_cons_zero, List.getD_cons_succ, wBin_lss, wBin_leq, wBin_gtr, wBin_geq, wBin_eql, wBin_neq, wIf_bool, wGuard_true, wGuard_false, wPick_true, wPick_false, wUn_not, wFld_eq, wExt_eq, wPart_one, wPart_agg, wLen_slice, wLen_string, wNew_eq, wNm_eq, dBox_agg, dBox_int, dBox_slice, dBox_string, dBox_bool, dBox_map, dBox_ptr, oneCells, wLd_none, wLd_2, wLd_3, wLd_32, ldP_cells, ldP_rom, cellP_one, getH_same, getH_ne, forceV_eq, forceN_eq, hsK_eq, Option.elim_some, List.getElem?_cons_zero, List.getElem?_cons_succ, Yld.val, decide_true, decide_false, if_true, if_false, Bool.false_eq_true, Nat.zero_add, Nat.add_zero, and_true, true_and, or_false, Bool.not_true, Bool.not_false, and_self, wBin_add64, wBin_sub64, wIdx_slice, wIdx_array, wNilc_eq, Int.toNat_natCast, Nat.mul_one, Nat.zero_mul, wSt_agg, wSt_int, wSt_bool, wSt_string, wSt_slice, wSt_ptr, wSt_map, wSt_func, stP_cells, bit_one, bit_zero, bit_one', bit_zero', wBin_shr32, wBin_and1, wBin_rem2, wBin_andNot32, wBin_or32, wBin_and32, wBin_shl32, u32_eq_zero, u32_ne_zero, List.length_cons, List.length_nil, Nat.le_refl, Nat.reduceAdd, Nat.reduceMul, Nat.reduceLeDiff, Int.toNat_zero, Int.toNat_one]
    · have h2 : (l.length : Int) > 40 := by omega
      by_cases h1 : (es.length : Int) > 70
      · simp (config := { maxSteps := 2000000 }) (disch := first | omega | assumption | exact shr_lt (by assumption) | exact ndiff32 (by assumption) | exact below_lt (by omega) | fail) only [List.getD_cons_zero, List.getD_cons_succ, wBin_lss, wBin_leq, wBin_gtr, wBin_geq, wBin_eql, wBin_neq, wIf_bool, wGuard_true, wGuard_false, wPick_true, wPick_false, wUn_not, wFld_eq, wExt_eq, wPart_one, wPart_agg, wLen_slice, wLen_string, wNew_eq, wNm_eq, dBox_agg, dBox_int, dBox_slice, dBox_string, dBox_bool, dBox_map, dBox_ptr, oneCells, wLd_none, wLd_2, wLd_3, wLd_32, ldP_cells, ldP_rom, cellP_one, getH_same, getH_ne, forceV_eq, forceN_eq, hsK_eq, Option.elim_some, List.getElem?_cons_zero, List.getElem?_cons_succ, Yld.val, decide_true, decide_false, if_true, if_false, Bool.false_eq_true, Nat.zero_add, Nat.add_zero, and_true, true_and, or_false, Bool.not_true, Bool.not_false, and_self, wBin_add64, wBin_sub64, wIdx_slice, wIdx_array, wNilc_eq, Int.toNat_natCast, Nat.mul_one, Nat.zero_mul, wSt_agg, wSt_int, wSt_bool, wSt_string, wSt_slice, wSt_ptr, wSt_map, wSt_func, stP_cells, bit_one, bit_zero, bit_one', bit_zero', wBin_shr32, wBin_and1, wBin_rem2, wBin_andNot32, wBin_or32, wBin_and32, wBin_shl32, u32_eq_zero, u32_ne_zero, List.length_cons, List.length_nil, Nat.le_refl, Nat.reduceAdd, Nat.reduceMul, Nat.reduceLeDiff, Int.toNat_zero, Int.toNat_one, h1]
        refine wCall_rule (awake7 _ _) ?_
        rintro _ _ _ ⟨rfl, rfl, rfl⟩
        simp (disch := first | omega | assumption | exact shr_lt (by assumption) | exact ndiff32 (by assumption) | exact below_lt (by omega) | fail) only [List.getD_cons_zero, List.getD_cons_succ, wBin_lss, wBin_leq, wBin_gtr, wBin_geq, wBin_eql, wBin_neq, wIf_bool, wGuard_true, wGuard_false, wPick_true, wPick_false, wUn_not, wFld_eq, wExt_eq, wPart_one, wPart_agg, wLen_slice, wLen_string, wNew_eq, wNm_eq, dBox_agg, dBox_int, dBox_slice, dBox_string, dBox_bool, dBox_map, dBox_ptr, oneCells, wLd_none, wLd_2, wLd_3, wLd_32, ldP_cells, ldP_rom, cellP_one, getH_same, getH_ne, forceV_eq, forceN_eq, hsK_eq, Option.elim_some, List.getElem?_cons_zero, List.getElem?_cons_succ, Yld.val, decide_true, decide_false, if_true, if_false, Bool.false_eq_true, Nat.zero_add, Nat.add_zero, and_true, true_and, or_false, Bool.not_true, Bool.not_false, and_self, wBin_add64, wBin_sub64, wIdx_slice, wIdx_array, wNilc_eq, Int.toNat_natCast, Nat.mul_one, Nat.zero_mul, wSt_agg, wSt_int, wSt_bool, wSt_string, wSt_slice, wSt_ptr, wSt_map, wSt_func, stP_cells, bit_one, bit_zero, bit_one', bit_zero', wBin_shr32, wBin_and1, wBin_rem2, wBin_andNot32, wBin_or32, wBin_and32, wBin_shl32, u32_eq_zero, u32_ne_zero, List.length_cons, List.length_nil, Nat.le_refl, Nat.reduceAdd, Nat.reduceMul, Nat.reduceLeDiff, Int.toNat_zero, Int.toNat_one]
      · simp (config := { maxSteps := 2000000 }) (disch := first | omega | assumption | exact shr_lt (by assumption) | exact ndiff32 (by assumption) | exact below_lt (by omega) | fail) only [List.getD_cons_zero, List.getD_cons_succ, wBin_lss, wBin_leq, wBin_gtr, wBin_geq, wBin_eql, wBin_neq, wIf_bool, wGuard_true, wGuard_false, wPick_true, wPick_false, wUn_not, wFld_eq, wExt_eq, wPart_one, wPart_agg, wLen_slice, wLen_string, wNew_eq, wNm_eq, dBox_agg, dBox_int, dBox_slice, dBox_string, dBox_bool, dBox_map, dBox_ptr, oneCells, wLd_none, wLd_2, wLd_3, wLd_32, ldP_cells, ldP_rom, cellP_one, getH_same, getH_ne, forceV_eq, forceN_eq, hsK_eq, Option.elim_some, List.getElem?_cons_zero, List.getElem?_cons_succ, Yld.val, decide_true, decide_false, if_true, if_false, Bool.false_eq_true, Nat.zero_add, Nat.add_zero, and_true, true_and, or_false, Bool.not_true, Bool.not_false, and_self, wBin_add64, wBin_sub64, wIdx_slice, wIdx_array, wNilc_eq, Int.toNat_natCast, Nat.mul_one, Nat.zero_mul, wSt_agg, wSt_int, wSt_bool, wSt_string, wSt_slice, wSt_ptr, wSt_map, wSt_func, stP_cells, bit_one, bit_zero, bit_one', bit_zero', wBin_shr32, wBin_and1, wBin_rem2, wBin_andNot32, wBin_or32, wBin_and32, wBin_shl32, u32_eq_zero, u32_ne_zero, List.length_cons, List.length_nil, Nat.le_refl, Nat.reduceAdd, Nat.reduceMul, Nat.reduceLeDiff, Int.toNat_zero, Int.toNat_one, h1, h2]
        refine wCall_rule (awake7 _ _) ?_
        rintro _ _ _ ⟨rfl, rfl, rfl⟩
        simp (disch := first | omega | assumption | exact shr_lt (by assumption) | exact ndiff32 (by assumption) | exact below_lt (by omega) | fail) only [List.getD_cons_zero, List.getD_cons_succ, wBin_lss, wBin_leq, wBin_gtr, wBin_geq, wBin_eql, wBin_neq, wIf_bool, wGuard_true, wGuard_false, wPick_true, wPick_false, wUn_not, wFld_eq, wExt_eq, wPart_one, wPart_agg, wLen_slice, wLen_string, wNew_eq, wNm_eq, dBox_agg, dBox_int, dBox_slice, dBox_string, dBox_bool, dBox_map, dBox_ptr, oneCells, wLd_none, wLd_2, wLd_3, wLd_32, ldP_cells, ldP_rom, cellP_one, getH_same, getH_ne, forceV_eq, forceN_eq, hsK_eq, Option.elim_some, List.getElem?_cons_zero, List.getElem?_cons_succ, Yld.val, decide_true, decide_false, if_true, if_false, Bool.false_eq_true, Nat.zero_add, Nat.add_zero, and_true, true_and, or_false, Bool.not_true, Bool.not_false, and_self, wBin_add64, wBin_sub64, wIdx_slice, wIdx_array, wNilc_eq, Int.toNat_natCast, Nat.mul_one, Nat.zero_mul, wSt_agg, wSt_int, wSt_bool, wSt_string, wSt_slice, wSt_ptr, wSt_map, wSt_func, stP_cells, bit_one, bit_zero, bit_one', bit_zero', wBin_shr32, wBin_and1, wBin_rem2, wBin_andNot32, wBin_or32, wBin_and32, wBin_shl32, u32_eq_zero, u32_ne_zero, List.length_cons, List.length_nil, Nat.le_refl, Nat.reduceAdd, Nat.reduceMul, Nat.reduceLeDiff, Int.toNat_zero, Int.toNat_one]
  have h1 : ¬ (es.length : Int) > 70 := by omega
  have h2 : ¬ (l.length : Int) > 40 := by omega
  simp (config := { maxSteps := 2000000 }) (disch := first | omega | assumption | exact shr_lt (by assumption) | exact ndiff32 (by assumption) | exact below_lt (by omega) | fail) only [List.getD_cons_zero, List.getD_cons_succ, wBin_lss, wBin_leq, wBin_gtr, wBin_geq, wBin_eql, wBin_neq, wIf_bool, wGuard_true, wGuard_false, wPick_true, wPick_false, wUn_not, wFld_eq, wExt_eq, wPart_one, wPart_agg, wLen_slice, wLen_string, wNew_eq, wNm_eq, dBox_agg, dBox_int, dBox_slice, dBox_string, dBox_bool, dBox_map, dBox_ptr, oneCells, wLd_none, wLd_2, wLd_3, wLd_32, ldP_cells, ldP_rom, cellP_one, getH_same, getH_ne, forceV_eq, forceN_eq, hsK_eq, Option.elim_some, List.getElem?_cons_zero, List.getElem?_cons_succ, Yld.val, decide_true, decide_false, if_true, if_false, Bool.false_eq_true, Nat.zero_add, Nat.add_zero, and_true, true_and, or_false, Bool.not_true, Bool.not_false, and_self, wBin_add64, wBin_sub64, wIdx_slice, wIdx_array, wNilc_eq, Int.toNat_natCast, Nat.mul_one, Nat.zero_mul, wSt_agg, wSt_int, wSt_bool, wSt_string, wSt_slice, wSt_ptr, wSt_map, wSt_func, stP_cells, bit_one, bit_zero, bit_one', bit_zero', wBin_shr32, wBin_and1, wBin_rem2, wBin_andNot32, wBin_or32, wBin_and32, wBin_shl32, u32_eq_zero, u32_ne_zero, List.length_cons, List.length_nil, Nat.le_refl, Nat.reduceAdd, Nat.reduceMul, Nat.reduceLeDiff, Int.toNat_zero, Int.toNat_one, h1, h2, cellP_lit2]
  refine wCall_rule (bags13 N free A es cap P l capP _ _ (hS.ext hE1) hsm (hP.ext hE1) (hP0.ext hE1) (by omega)) ?_
  rintro r H2 nx2 ⟨hE2, hr⟩
  have hg2 := hE2.get nx (by omega)
  rw [getH_same] at hg2
  have hnx2 := hE2.le
  have hEE2 := hE1.trans hE2
  rcases hr with ⟨hf0, rfl⟩ | ⟨n, f, rfl, rfl, hfn, hn, hfc, hr⟩
  · -- an error of the graph or of the number of free variables
    simp only [refuse]
    simp (config := { maxSteps := 2000000 }) (disch := first | omega | assumption | exact shr_lt (by assumption) | exact ndiff32 (by assumption) | exact below_lt (by omega) | fail) only [List.getD_cons_zero, List.getD_cons_succ, wBin_lss, wBin_leq, wBin_gtr, wBin_geq, wBin_eql, wBin_neq, wIf_bool, wGuard_true, wGuard_false, wPick_true, wPick_false, wUn_not, wFld_eq, wExt_eq, wPart_one, wPart_agg, wLen_slice, wLen_string, wNew_eq, wNm_eq, dBox_agg, dBox_int, dBox_slice, dBox_string, dBox_bool, dBox_map, dBox_ptr, oneCells, wLd_none, wLd_2, wLd_3, wLd_32, ldP_cells, ldP_rom, cellP_one, getH_same, getH_ne, forceV_eq, forceN_eq, hsK_eq, Option.elim_some, List.getElem?_cons_zero, List.getElem?_cons_succ, Yld.val, decide_true, decide_false, if_true, if_false, Bool.false_eq_true, Nat.zero_add, Nat.add_zero, and_true, true_and, or_false, Bool.not_true, Bool.not_false, and_self, wBin_add64, wBin_sub64, wIdx_slice, wIdx_array, wNilc_eq, Int.toNat_natCast, Nat.mul_one, Nat.zero_mul, wSt_agg, wSt_int, wSt_bool, wSt_string, wSt_slice, wSt_ptr, wSt_map, wSt_func, stP_cells, bit_one, bit_zero, bit_one', bit_zero', wBin_shr32, wBin_and1, wBin_rem2, wBin_andNot32, wBin_or32, wBin_and32, wBin_shl32, u32_eq_zero, u32_ne_zero, List.length_cons, List.length_nil, Nat.le_refl, Nat.reduceAdd, Nat.reduceMul, Nat.reduceLeDiff, Int.toNat_zero, Int.toNat_one, hg2, cellP_lit2]
    refine wCall_rule (of10 N A es.length cap _ _) ?_
    rintro _ H3 nx3 ⟨rfl, hE3⟩
    have hEE3 := hEE2.trans hE3
    refine wCall_rule (check9 N A es cap _ _ (hS.ext hEE3) hsm) ?_
    rintro _ H4 nx4 ⟨rfl, hE4⟩
    have hg4 := ((hE3.trans hE4).get nx (by omega)).trans hg2
    by_cases hg0 : gcode N es = 0
    · have d1 : decide (gcode N es ≠ 0) = false := by simp [hg0]
      have hff : free < 0 ∨ N < free := by
        refine Classical.byContradiction fun h => hf0 ?_
        unfold fcode; rw [if_neg (by simpa using hg0), if_neg h]
      have hf3 : fcode N free es = 3 := by unfold fcode; rw [if_neg (by simpa using hg0), if_pos hff]
      have d3 : decide ((3 : Int) ≠ 0) = true := by decide
      have d4 : decide ((3 : Int) = 3) = true := by decide
      have d5 : decide ((0 : Int) = 0) = true := by decide
      rw [hf3]
      rcases hff with h | h
      · simp (config := { maxSteps := 2000000 }) (disch := first | omega | assumption | exact shr_lt (by assumption) | exact ndiff32 (by assumption) | exact below_lt (by omega) | fail) only [List.getD_cons_zero, List.getD_cons_succ, wBin_lss, wBin_leq, wBin_gtr, wBin_geq, wBin_eql, wBin_neq, wIf_bool, wGuard_true, wGuard_false, wPick_true, wPick_false, wUn_not, wFld_eq, wExt_eq, wPart_one, wPart_agg, wLen_slice, wLen_string, wNew_eq, wNm_eq, dBox_agg, dBox_int, dBox_slice, dBox_string, dBox_bool, dBox_map, dBox_ptr, oneCells, wLd_none, wLd_2, wLd_3, wLd_32, ldP_cells, ldP_rom, cellP_one, getH_same, getH_ne, forceV_eq, forceN_eq, hsK_eq, Option.elim_some, List.getElem?_cons_zero, List.getElem?_cons_succ, Yld.val, decide_true, decide_false, if_true, if_false, Bool.false_eq_true, Nat.zero_add, Nat.add_zero, and_true, true_and, or_false, Bool.not_true, Bool.not_false, and_self, wBin_add64, wBin_sub64, wIdx_slice, wIdx_array, wNilc_eq, Int.toNat_natCast, Nat.mul_one, Nat.zero_mul, wSt_agg, wSt_int, wSt_bool, wSt_string, wSt_slice, wSt_ptr, wSt_map, wSt_func, stP_cells, bit_one, bit_zero, bit_one', bit_zero', wBin_shr32, wBin_and1, wBin_rem2, wBin_andNot32, wBin_or32, wBin_and32, wBin_shl32, u32_eq_zero, u32_ne_zero, List.length_cons, List.length_nil, Nat.le_refl, Nat.reduceAdd, Nat.reduceMul, Nat.reduceLeDiff, Int.toNat_zero, Int.toNat_one, d1, h, d3]
        refine wCall_rule (awake7 _ _) ?_
        rintro _ _ _ ⟨rfl, rfl, rfl⟩
        simp (config := { maxSteps := 2000000 }) (disch := first | omega | assumption | exact shr_lt (by assumption) | exact ndiff32 (by assumption) | exact below_lt (by omega) | fail) only [List.getD_cons_zero, List.getD_cons_succ, wBin_lss, wBin_leq, wBin_gtr, wBin_geq, wBin_eql, wBin_neq, wIf_bool, wGuard_true, wGuard_false, wPick_true, wPick_false, wUn_not, wFld_eq, wExt_eq, wPart_one, wPart_agg, wLen_slice, wLen_string, wNew_eq, wNm_eq, dBox_agg, dBox_int, dBox_slice, dBox_string, dBox_bool, dBox_map, dBox_ptr, oneCells, wLd_none, wLd_2, wLd_3, wLd_32, ldP_cells, ldP_rom, cellP_one, getH_same, getH_ne, forceV_eq, forceN_eq, hsK_eq, Option.elim_some, List.getElem?_cons_zero, List.getElem?_cons_succ, Yld.val, decide_true, decide_false, if_true, if_false, Bool.false_eq_true, Nat.zero_add, Nat.add_zero, and_true, true_and, or_false, Bool.not_true, Bool.not_false, and_self, wBin_add64, wBin_sub64, wIdx_slice, wIdx_array, wNilc_eq, Int.toNat_natCast, Nat.mul_one, Nat.zero_mul, wSt_agg, wSt_int, wSt_bool, wSt_string, wSt_slice, wSt_ptr, wSt_map, wSt_func, stP_cells, bit_one, bit_zero, bit_one', bit_zero', wBin_shr32, wBin_and1, wBin_rem2, wBin_andNot32, wBin_or32, wBin_and32, wBin_shl32, u32_eq_zero, u32_ne_zero, List.length_cons, List.length_nil, Nat.le_refl, Nat.reduceAdd, Nat.reduceMul, Nat.reduceLeDiff, Int.toNat_zero, Int.toNat_one, d4, d5]
      · have h3 : ¬ free < 0 := by
          intro h0
          have : N < 0 := by omega
          rw [gcode_range (.inl this)] at hg0; omega
        simp (config := { maxSteps := 2000000 }) (disch := first | omega | assumption | exact shr_lt (by assumption) | exact ndiff32 (by assumption) | exact below_lt (by omega) | fail) only [List.getD_cons_zero, List.getD_cons_succ, wBin_lss, wBin_leq, wBin_gtr, wBin_geq, wBin_eql, wBin_neq, wIf_bool, wGuard_true, wGuard_false, wPick_true, wPick_false, wUn_not, wFld_eq, wExt_eq, wPart_one, wPart_agg, wLen_slice, wLen_string, wNew_eq, wNm_eq, dBox_agg, dBox_int, dBox_slice, dBox_string, dBox_bool, dBox_map, dBox_ptr, oneCells, wLd_none, wLd_2, wLd_3, wLd_32, ldP_cells, ldP_rom, cellP_one, getH_same, getH_ne, forceV_eq, forceN_eq, hsK_eq, Option.elim_some, List.getElem?_cons_zero, List.getElem?_cons_succ, Yld.val, decide_true, decide_false, if_true, if_false, Bool.false_eq_true, Nat.zero_add, Nat.add_zero, and_true, true_and, or_false, Bool.not_true, Bool.not_false, and_self, wBin_add64, wBin_sub64, wIdx_slice, wIdx_array, wNilc_eq, Int.toNat_natCast, Nat.mul_one, Nat.zero_mul, wSt_agg, wSt_int, wSt_bool, wSt_string, wSt_slice, wSt_ptr, wSt_map, wSt_func, stP_cells, bit_one, bit_zero, bit_one', bit_zero', wBin_shr32, wBin_and1, wBin_rem2, wBin_andNot32, wBin_or32, wBin_and32, wBin_shl32, u32_eq_zero, u32_ne_zero, List.length_cons, List.length_nil, Nat.le_refl, Nat.reduceAdd, Nat.reduceMul, Nat.reduceLeDiff, Int.toNat_zero, Int.toNat_one, d1, h3, hg4, h, d3]
        refine wCall_rule (awake7 _ _) ?_
        rintro _ _ _ ⟨rfl, rfl, rfl⟩
        simp (config := { maxSteps := 2000000 }) (disch := first | omega | assumption | exact shr_lt (by assumption) | exact ndiff32 (by assumption) | exact below_lt (by omega) | fail) only [List.getD_cons_zero, List.getD_cons_succ, wBin_lss, wBin_leq, wBin_gtr, wBin_geq, wBin_eql, wBin_neq, wIf_bool, wGuard_true, wGuard_false, wPick_true, wPick_false, wUn_not, wFld_eq, wExt_eq, wPart_one, wPart_agg, wLen_slice, wLen_string, wNew_eq, wNm_eq, dBox_agg, dBox_int, dBox_slice, dBox_string, dBox_bool, dBox_map, dBox_ptr, oneCells, wLd_none, wLd_2, wLd_3, wLd_32, ldP_cells, ldP_rom, cellP_one, getH_same, getH_ne, forceV_eq, forceN_eq, hsK_eq, Option.elim_some, List.getElem?_cons_zero, List.getElem?_cons_succ, Yld.val, decide_true, decide_false, if_true, if_false, Bool.false_eq_true, Nat.zero_add, Nat.add_zero, and_true, true_and, or_false, Bool.not_true, Bool.not_false, and_self, wBin_add64, wBin_sub64, wIdx_slice, wIdx_array, wNilc_eq, Int.toNat_natCast, Nat.mul_one, Nat.zero_mul, wSt_agg, wSt_int, wSt_bool, wSt_string, wSt_slice, wSt_ptr, wSt_map, wSt_func, stP_cells, bit_one, bit_zero, bit_one', bit_zero', wBin_shr32, wBin_and1, wBin_rem2, wBin_andNot32, wBin_or32, wBin_and32, wBin_shl32, u32_eq_zero, u32_ne_zero, List.length_cons, List.length_nil, Nat.le_refl, Nat.reduceAdd, Nat.reduceMul, Nat.reduceLeDiff, Int.toNat_zero, Int.toNat_one, d4, d5]
    · have d1 : decide (gcode N es ≠ 0) = true := by simp [hg0]
      have hfe : fcode N free es = gcode N es := by unfold fcode; rw [if_pos hg0]
      rw [hfe]
      have d4 : decide (gcode N es = gcode N es) = true := by simp
      have d5 : decide ((0 : Int) = 0) = true := by decide
      simp (config := { maxSteps := 2000000 }) (disch := first | omega | assumption | exact shr_lt (by assumption) | exact ndiff32 (by assumption) | exact below_lt (by omega) | fail) only [List.getD_cons_zero, List.getD_cons_succ, wBin_lss, wBin_leq, wBin_gtr, wBin_geq, wBin_eql, wBin_neq, wIf_bool, wGuard_true, wGuard_false, wPick_true, wPick_false, wUn_not, wFld_eq, wExt_eq, wPart_one, wPart_agg, wLen_slice, wLen_string, wNew_eq, wNm_eq, dBox_agg, dBox_int, dBox_slice, dBox_string, dBox_bool, dBox_map, dBox_ptr, oneCells, wLd_none, wLd_2, wLd_3, wLd_32, ldP_cells, ldP_rom, cellP_one, getH_same, getH_ne, forceV_eq, forceN_eq, hsK_eq, Option.elim_some, List.getElem?_cons_zero, List.getElem?_cons_succ, Yld.val, decide_true, decide_false, if_true, if_false, Bool.false_eq_true, Nat.zero_add, Nat.add_zero, and_true, true_and, or_false, Bool.not_true, Bool.not_false, and_self, wBin_add64, wBin_sub64, wIdx_slice, wIdx_array, wNilc_eq, Int.toNat_natCast, Nat.mul_one, Nat.zero_mul, wSt_agg, wSt_int, wSt_bool, wSt_string, wSt_slice, wSt_ptr, wSt_map, wSt_func, stP_cells, bit_one, bit_zero, bit_one', bit_zero', wBin_shr32, wBin_and1, wBin_rem2, wBin_andNot32, wBin_or32, wBin_and32, wBin_shl32, u32_eq_zero, u32_ne_zero, List.length_cons, List.length_nil, Nat.le_refl, Nat.reduceAdd, Nat.reduceMul, Nat.reduceLeDiff, Int.toNat_zero, Int.toNat_one, d1]
      refine wCall_rule (awake7 _ _) ?_
      rintro _ _ _ ⟨rfl, rfl, rfl⟩
      simp (config := { maxSteps := 2000000 }) (disch := first | omega | assumption | exact shr_lt (by assumption) | exact ndiff32 (by assumption) | exact below_lt (by omega) | fail) only [List.getD_cons_zero, List.getD_cons_succ, wBin_lss, wBin_leq, wBin_gtr, wBin_geq, wBin_eql, wBin_neq, wIf_bool, wGuard_true, wGuard_false, wPick_true, wPick_false, wUn_not, wFld_eq, wExt_eq, wPart_one, wPart_agg, wLen_slice, wLen_string, wNew_eq, wNm_eq, dBox_agg, dBox_int, dBox_slice, dBox_string, dBox_bool, dBox_map, dBox_ptr, oneCells, wLd_none, wLd_2, wLd_3, wLd_32, ldP_cells, ldP_rom, cellP_one, getH_same, getH_ne, forceV_eq, forceN_eq, hsK_eq, Option.elim_some, List.getElem?_cons_zero, List.getElem?_cons_succ, Yld.val, decide_true, decide_false, if_true, if_false, Bool.false_eq_true, Nat.zero_add, Nat.add_zero, and_true, true_and, or_false, Bool.not_true, Bool.not_false, and_self, wBin_add64, wBin_sub64, wIdx_slice, wIdx_array, wNilc_eq, Int.toNat_natCast, Nat.mul_one, Nat.zero_mul, wSt_agg, wSt_int, wSt_bool, wSt_string, wSt_slice, wSt_ptr, wSt_map, wSt_func, stP_cells, bit_one, bit_zero, bit_one', bit_zero', wBin_shr32, wBin_and1, wBin_rem2, wBin_andNot32, wBin_or32, wBin_and32, wBin_shl32, u32_eq_zero, u32_ne_zero, List.length_cons, List.length_nil, Nat.le_refl, Nat.reduceAdd, Nat.reduceMul, Nat.reduceLeDiff, Int.toNat_zero, Int.toNat_one, d4, d5]
  obtain ⟨n', f', e1, e2, _, _, hle, hes⟩ := fcode_inv hfc
  have : n' = n := by omega
  subst this
  have : f' = f := by omega
  subst this
  have hgc : gcode n' es = 0 := by
    unfold fcode at hfc
    split at hfc
    · rename_i h; exact absurd hfc h
    · rename_i h; exact Decidable.of_not_not h
  have d1 : decide (gcode n' es ≠ 0) = false := by simp [hgc]
  have h3 : ¬ (f' : Int) < 0 := by omega
  have h4 : ¬ (f' : Int) > (n' : Int) := by omega
  have d3 : decide ((1 : Int) ≠ 0) = true := by decide
  have d4 : decide ((1 : Int) = 1) = true := by decide
  have d5 : decide ((0 : Int) = 0) = true := by decide
  rcases hr with ⟨hnp, rfl⟩ | ⟨hp, order, hord, hnd, hlt, hlen, R, rfl, hR⟩
  · simp only [refuse]
    simp (config := { maxSteps := 2000000 }) (disch := first | omega | assumption | exact shr_lt (by assumption) | exact ndiff32 (by assumption) | exact below_lt (by omega) | fail) only [List.getD_cons_zero, List.getD_cons_succ, wBin_lss, wBin_leq, wBin_gtr, wBin_geq, wBin_eql, wBin_neq, wIf_bool, wGuard_true, wGuard_false, wPick_true, wPick_false, wUn_not, wFld_eq, wExt_eq, wPart_one, wPart_agg, wLen_slice, wLen_string, wNew_eq, wNm_eq, dBox_agg, dBox_int, dBox_slice, dBox_string, dBox_bool, dBox_map, dBox_ptr, oneCells, wLd_none, wLd_2, wLd_3, wLd_32, ldP_cells, ldP_rom, cellP_one, getH_same, getH_ne, forceV_eq, forceN_eq, hsK_eq, Option.elim_some, List.getElem?_cons_zero, List.getElem?_cons_succ, Yld.val, decide_true, decide_false, if_true, if_false, Bool.false_eq_true, Nat.zero_add, Nat.add_zero, and_true, true_and, or_false, Bool.not_true, Bool.not_false, and_self, wBin_add64, wBin_sub64, wIdx_slice, wIdx_array, wNilc_eq, Int.toNat_natCast, Nat.mul_one, Nat.zero_mul, wSt_agg, wSt_int, wSt_bool, wSt_string, wSt_slice, wSt_ptr, wSt_map, wSt_func, stP_cells, bit_one, bit_zero, bit_one', bit_zero', wBin_shr32, wBin_and1, wBin_rem2, wBin_andNot32, wBin_or32, wBin_and32, wBin_shl32, u32_eq_zero, u32_ne_zero, List.length_cons, List.length_nil, Nat.le_refl, Nat.reduceAdd, Nat.reduceMul, Nat.reduceLeDiff, Int.toNat_zero, Int.toNat_one, hg2, cellP_lit2]
    refine wCall_rule (of10 n' A es.length cap _ _) ?_
    rintro _ H3 nx3 ⟨rfl, hE3⟩
    have hEE3 := hEE2.trans hE3
    refine wCall_rule (check9 n' A es cap _ _ (hS.ext hEE3) hsm) ?_
    rintro _ H4 nx4 ⟨rfl, hE4⟩
    have hEE4 := hEE3.trans hE4
    have hg4 := ((hE3.trans hE4).get nx (by omega)).trans hg2
    simp (config := { maxSteps := 2000000 }) (disch := first | omega | assumption | exact shr_lt (by assumption) | exact ndiff32 (by assumption) | exact below_lt (by omega) | fail) only [List.getD_cons_zero, List.getD_cons_succ, wBin_lss, wBin_leq, wBin_gtr, wBin_geq, wBin_eql, wBin_neq, wIf_bool, wGuard_true, wGuard_false, wPick_true, wPick_false, wUn_not, wFld_eq, wExt_eq, wPart_one, wPart_agg, wLen_slice, wLen_string, wNew_eq, wNm_eq, dBox_agg, dBox_int, dBox_slice, dBox_string, dBox_bool, dBox_map, dBox_ptr, oneCells, wLd_none, wLd_2, wLd_3, wLd_32, ldP_cells, ldP_rom, cellP_one, getH_same, getH_ne, forceV_eq, forceN_eq, hsK_eq, Option.elim_some, List.getElem?_cons_zero, List.getElem?_cons_succ, Yld.val, decide_true, decide_false, if_true, if_false, Bool.false_eq_true, Nat.zero_add, Nat.add_zero, and_true, true_and, or_false, Bool.not_true, Bool.not_false, and_self, wBin_add64, wBin_sub64, wIdx_slice, wIdx_array, wNilc_eq, Int.toNat_natCast, Nat.mul_one, Nat.zero_mul, wSt_agg, wSt_int, wSt_bool, wSt_string, wSt_slice, wSt_ptr, wSt_map, wSt_func, stP_cells, bit_one, bit_zero, bit_one', bit_zero', wBin_shr32, wBin_and1, wBin_rem2, wBin_andNot32, wBin_or32, wBin_and32, wBin_shl32, u32_eq_zero, u32_ne_zero, List.length_cons, List.length_nil, Nat.le_refl, Nat.reduceAdd, Nat.reduceMul, Nat.reduceLeDiff, Int.toNat_zero, Int.toNat_one, d1, h3, h4, hg4]
    refine wCall_rule (perm14 hn hfn P l capP _ _ (hP.ext hEE4) (by omega)) ?_
    rintro _ H5 nx5 ⟨⟨c, rfl, hc⟩, hE5⟩
    have : c = false := by
      cases c with
      | false => rfl
      | true => exact absurd (hc.1 rfl) hnp
    subst this
    simp (config := { maxSteps := 2000000 }) (disch := first | omega | assumption | exact shr_lt (by assumption) | exact ndiff32 (by assumption) | exact below_lt (by omega) | fail) only [List.getD_cons_zero, List.getD_cons_succ, wBin_lss, wBin_leq, wBin_gtr, wBin_geq, wBin_eql, wBin_neq, wIf_bool, wGuard_true, wGuard_false, wPick_true, wPick_false, wUn_not, wFld_eq, wExt_eq, wPart_one, wPart_agg, wLen_slice, wLen_string, wNew_eq, wNm_eq, dBox_agg, dBox_int, dBox_slice, dBox_string, dBox_bool, dBox_map, dBox_ptr, oneCells, wLd_none, wLd_2, wLd_3, wLd_32, ldP_cells, ldP_rom, cellP_one, getH_same, getH_ne, forceV_eq, forceN_eq, hsK_eq, Option.elim_some, List.getElem?_cons_zero, List.getElem?_cons_succ, Yld.val, decide_true, decide_false, if_true, if_false, Bool.false_eq_true, Nat.zero_add, Nat.add_zero, and_true, true_and, or_false, Bool.not_true, Bool.not_false, and_self, wBin_add64, wBin_sub64, wIdx_slice, wIdx_array, wNilc_eq, Int.toNat_natCast, Nat.mul_one, Nat.zero_mul, wSt_agg, wSt_int, wSt_bool, wSt_string, wSt_slice, wSt_ptr, wSt_map, wSt_func, stP_cells, bit_one, bit_zero, bit_one', bit_zero', wBin_shr32, wBin_and1, wBin_rem2, wBin_andNot32, wBin_or32, wBin_and32, wBin_shl32, u32_eq_zero, u32_ne_zero, List.length_cons, List.length_nil, Nat.le_refl, Nat.reduceAdd, Nat.reduceMul, Nat.reduceLeDiff, Int.toNat_zero, Int.toNat_one, d3]
    refine wCall_rule (awake7 _ _) ?_
    rintro _ _ _ ⟨rfl, rfl, rfl⟩
    simp (config := { maxSteps := 2000000 }) (disch := first | omega | assumption | exact shr_lt (by assumption) | exact ndiff32 (by assumption) | exact below_lt (by omega) | fail) only [List.getD_cons_zero, List.getD_cons_succ, wBin_lss, wBin_leq, wBin_gtr, wBin_geq, wBin_eql, wBin_neq, wIf_bool, wGuard_true, wGuard_false, wPick_true, wPick_false, wUn_not, wFld_eq, wExt_eq, wPart_one, wPart_agg, wLen_slice, wLen_string, wNew_eq, wNm_eq, dBox_agg, dBox_int, dBox_slice, dBox_string, dBox_bool, dBox_map, dBox_ptr, oneCells, wLd_none, wLd_2, wLd_3, wLd_32, ldP_cells, ldP_rom, cellP_one, getH_same, getH_ne, forceV_eq, forceN_eq, hsK_eq, Option.elim_some, List.getElem?_cons_zero, List.getElem?_cons_succ, Yld.val, decide_true, decide_false, if_true, if_false, Bool.false_eq_true, Nat.zero_add, Nat.add_zero, and_true, true_and, or_false, Bool.not_true, Bool.not_false, and_self, wBin_add64, wBin_sub64, wIdx_slice, wIdx_array, wNilc_eq, Int.toNat_natCast, Nat.mul_one, Nat.zero_mul, wSt_agg, wSt_int, wSt_bool, wSt_string, wSt_slice, wSt_ptr, wSt_map, wSt_func, stP_cells, bit_one, bit_zero, bit_one', bit_zero', wBin_shr32, wBin_and1, wBin_rem2, wBin_andNot32, wBin_or32, wBin_and32, wBin_shl32, u32_eq_zero, u32_ne_zero, List.length_cons, List.length_nil, Nat.le_refl, Nat.reduceAdd, Nat.reduceMul, Nat.reduceLeDiff, Int.toNat_zero, Int.toNat_one, d4, d5]
  · simp (config := { maxSteps := 2000000 }) (disch := first | omega | assumption | exact shr_lt (by assumption) | exact ndiff32 (by assumption) | exact below_lt (by omega) | fail) only [List.getD_cons_zero, List.getD_cons_succ, wBin_lss, wBin_leq, wBin_gtr, wBin_geq, wBin_eql, wBin_neq, wIf_bool, wGuard_true, wGuard_false, wPick_true, wPick_false, wUn_not, wFld_eq, wExt_eq, wPart_one, wPart_agg, wLen_slice, wLen_string, wNew_eq, wNm_eq, dBox_agg, dBox_int, dBox_slice, dBox_string, dBox_bool, dBox_map, dBox_ptr, oneCells, wLd_none, wLd_2, wLd_3, wLd_32, ldP_cells, ldP_rom, cellP_one, getH_same, getH_ne, forceV_eq, forceN_eq, hsK_eq, Option.elim_some, List.getElem?_cons_zero, List.getElem?_cons_succ, Yld.val, decide_true, decide_false, if_true, if_false, Bool.false_eq_true, Nat.zero_add, Nat.add_zero, and_true, true_and, or_false, Bool.not_true, Bool.not_false, and_self, wBin_add64, wBin_sub64, wIdx_slice, wIdx_array, wNilc_eq, Int.toNat_natCast, Nat.mul_one, Nat.zero_mul, wSt_agg, wSt_int, wSt_bool, wSt_string, wSt_slice, wSt_ptr, wSt_map, wSt_func, stP_cells, bit_one, bit_zero, bit_one', bit_zero', wBin_shr32, wBin_and1, wBin_rem2, wBin_andNot32, wBin_or32, wBin_and32, wBin_shl32, u32_eq_zero, u32_ne_zero, List.length_cons, List.length_nil, Nat.le_refl, Nat.reduceAdd, Nat.reduceMul, Nat.reduceLeDiff, Int.toNat_zero, Int.toNat_one, hg2, cellP_lit2]
    refine wCall_rule (of10 n' A es.length cap _ _) ?_
    rintro _ H3 nx3 ⟨rfl, hE3⟩
    have hEE3 := hEE2.trans hE3
    refine wCall_rule (check9 n' A es cap _ _ (hS.ext hEE3) hsm) ?_
    rintro _ H4 nx4 ⟨rfl, hE4⟩
    have hEE4 := hEE3.trans hE4
    have hg4 := ((hE3.trans hE4).get nx (by omega)).trans hg2
    have hnx4 := (hE3.trans hE4).le
    simp (config := { maxSteps := 2000000 }) (disch := first | omega | assumption | exact shr_lt (by assumption) | exact ndiff32 (by assumption) | exact below_lt (by omega) | fail) only [List.getD_cons_zero, List.getD_cons_succ, wBin_lss, wBin_leq, wBin_gtr, wBin_geq, wBin_eql, wBin_neq, wIf_bool, wGuard_true, wGuard_false, wPick_true, wPick_false, wUn_not, wFld_eq, wExt_eq, wPart_one, wPart_agg, wLen_slice, wLen_string, wNew_eq, wNm_eq, dBox_agg, dBox_int, dBox_slice, dBox_string, dBox_bool, dBox_map, dBox_ptr, oneCells, wLd_none, wLd_2, wLd_3, wLd_32, ldP_cells, ldP_rom, cellP_one, getH_same, getH_ne, forceV_eq, forceN_eq, hsK_eq, Option.elim_some, List.getElem?_cons_zero, List.getElem?_cons_succ, Yld.val, decide_true, decide_false, if_true, if_false, Bool.false_eq_true, Nat.zero_add, Nat.add_zero, and_true, true_and, or_false, Bool.not_true, Bool.not_false, and_self, wBin_add64, wBin_sub64, wIdx_slice, wIdx_array, wNilc_eq, Int.toNat_natCast, Nat.mul_one, Nat.zero_mul, wSt_agg, wSt_int, wSt_bool, wSt_string, wSt_slice, wSt_ptr, wSt_map, wSt_func, stP_cells, bit_one, bit_zero, bit_one', bit_zero', wBin_shr32, wBin_and1, wBin_rem2, wBin_andNot32, wBin_or32, wBin_and32, wBin_shl32, u32_eq_zero, u32_ne_zero, List.length_cons, List.length_nil, Nat.le_refl, Nat.reduceAdd, Nat.reduceMul, Nat.reduceLeDiff, Int.toNat_zero, Int.toNat_one, d1, h3, h4, hg4]
    refine wCall_rule (perm14 hn hfn P l capP _ _ (hP.ext hEE4) (by omega)) ?_
    rintro _ H5 nx5 ⟨⟨c, rfl, hc⟩, hE5⟩
    have : c = true := hc.2 hp
    subst this
    have hE25 := (hE3.trans hE4).trans hE5
    have hEE5 := hEE4.trans hE5
    have hg5 := (hE25.get nx (by omega)).trans hg2
    have hnx5 := hE25.le
    simp (config := { maxSteps := 2000000 }) (disch := first | omega | assumption | exact shr_lt (by assumption) | exact ndiff32 (by assumption) | exact below_lt (by omega) | fail) only [List.getD_cons_zero, List.getD_cons_succ, wBin_lss, wBin_leq, wBin_gtr, wBin_geq, wBin_eql, wBin_neq, wIf_bool, wGuard_true, wGuard_false, wPick_true, wPick_false, wUn_not, wFld_eq, wExt_eq, wPart_one, wPart_agg, wLen_slice, wLen_string, wNew_eq, wNm_eq, dBox_agg, dBox_int, dBox_slice, dBox_string, dBox_bool, dBox_map, dBox_ptr, oneCells, wLd_none, wLd_2, wLd_3, wLd_32, ldP_cells, ldP_rom, cellP_one, getH_same, getH_ne, forceV_eq, forceN_eq, hsK_eq, Option.elim_some, List.getElem?_cons_zero, List.getElem?_cons_succ, Yld.val, decide_true, decide_false, if_true, if_false, Bool.false_eq_true, Nat.zero_add, Nat.add_zero, and_true, true_and, or_false, Bool.not_true, Bool.not_false, and_self, wBin_add64, wBin_sub64, wIdx_slice, wIdx_array, wNilc_eq, Int.toNat_natCast, Nat.mul_one, Nat.zero_mul, wSt_agg, wSt_int, wSt_bool, wSt_string, wSt_slice, wSt_ptr, wSt_map, wSt_func, stP_cells, bit_one, bit_zero, bit_one', bit_zero', wBin_shr32, wBin_and1, wBin_rem2, wBin_andNot32, wBin_or32, wBin_and32, wBin_shl32, u32_eq_zero, u32_ne_zero, List.length_cons, List.length_nil, Nat.le_refl, Nat.reduceAdd, Nat.reduceMul, Nat.reduceLeDiff, Int.toNat_zero, Int.toNat_one, d1]
    refine wCall_rule (awake7 _ _) ?_
    rintro _ _ _ ⟨rfl, rfl, rfl⟩
    simp (config := { maxSteps := 2000000 }) (disch := first | omega | assumption | exact shr_lt (by assumption) | exact ndiff32 (by assumption) | exact below_lt (by omega) | fail) only [List.getD_cons_zero, List.getD_cons_succ, wBin_lss, wBin_leq, wBin_gtr, wBin_geq, wBin_eql, wBin_neq, wIf_bool, wGuard_true, wGuard_false, wPick_true, wPick_false, wUn_not, wFld_eq, wExt_eq, wPart_one, wPart_agg, wLen_slice, wLen_string, wNew_eq, wNm_eq, dBox_agg, dBox_int, dBox_slice, dBox_string, dBox_bool, dBox_map, dBox_ptr, oneCells, wLd_none, wLd_2, wLd_3, wLd_32, ldP_cells, ldP_rom, cellP_one, getH_same, getH_ne, forceV_eq, forceN_eq, hsK_eq, Option.elim_some, List.getElem?_cons_zero, List.getElem?_cons_succ, Yld.val, decide_true, decide_false, if_true, if_false, Bool.false_eq_true, Nat.zero_add, Nat.add_zero, and_true, true_and, or_false, Bool.not_true, Bool.not_false, and_self, wBin_add64, wBin_sub64, wIdx_slice, wIdx_array, wNilc_eq, Int.toNat_natCast, Nat.mul_one, Nat.zero_mul, wSt_agg, wSt_int, wSt_bool, wSt_string, wSt_slice, wSt_ptr, wSt_map, wSt_func, stP_cells, bit_one, bit_zero, bit_one', bit_zero', wBin_shr32, wBin_and1, wBin_rem2, wBin_andNot32, wBin_or32, wBin_and32, wBin_shl32, u32_eq_zero, u32_ne_zero, List.length_cons, List.length_nil, Nat.le_refl, Nat.reduceAdd, Nat.reduceMul, Nat.reduceLeDiff, Int.toNat_zero, Int.toNat_one, d5]
    generalize hbs : outs n' (List.replicate n' zeroBag) (adj es) order = bs at hR
    have hbl : bs.length = n' := by rw [← hbs, outs_len]; simp
    have hkey : KeyOK bs := by rw [← hbs]; exact outs_key hn _ _ _ fun b hb => by rw [List.eq_of_mem_replicate hb]; decide
    have hgood := good_bags hn hes hp hord hnd hlt hlen
    rw [hbs] at hgood
    have hR5 := hR.ext (hE25.trans (Ext.self (by omega) : Ext H5 nx5 H5 (nx5 + 23)))
    have h12 := of12 R bs n' H5 (nx5 + 23) hR5 (by omega)
    rw [hbl] at h12
    refine wCall_rule h12 ?_
    rintro _ H6 nx6 ⟨hA6, hE6⟩
    have hE56 : Ext H5 nx5 H6 nx6 := (Ext.self (by omega) : Ext H5 nx5 H5 (nx5 + 23)).trans hE6
    have hEE6 := hEE5.trans hE56
    have hg6 := (hE56.get nx (by omega)).trans hg5
    have hnx6 := hE56.le
    obtain ⟨R', rfl, hR'⟩ := hA6.sl
    simp (config := { maxSteps := 2000000 }) (disch := first | omega | assumption | exact shr_lt (by assumption) | exact ndiff32 (by assumption) | exact below_lt (by omega) | fail) only [List.getD_cons_zero, List.getD_cons_succ, wBin_lss, wBin_leq, wBin_gtr, wBin_geq, wBin_eql, wBin_neq, wIf_bool, wGuard_true, wGuard_false, wPick_true, wPick_false, wUn_not, wFld_eq, wExt_eq, wPart_one, wPart_agg, wLen_slice, wLen_string, wNew_eq, wNm_eq, dBox_agg, dBox_int, dBox_slice, dBox_string, dBox_bool, dBox_map, dBox_ptr, oneCells, wLd_none, wLd_2, wLd_3, wLd_32, ldP_cells, ldP_rom, cellP_one, getH_same, getH_ne, forceV_eq, forceN_eq, hsK_eq, Option.elim_some, List.getElem?_cons_zero, List.getElem?_cons_succ, Yld.val, decide_true, decide_false, if_true, if_false, Bool.false_eq_true, Nat.zero_add, Nat.add_zero, and_true, true_and, or_false, Bool.not_true, Bool.not_false, and_self, wBin_add64, wBin_sub64, wIdx_slice, wIdx_array, wNilc_eq, Int.toNat_natCast, Nat.mul_one, Nat.zero_mul, wSt_agg, wSt_int, wSt_bool, wSt_string, wSt_slice, wSt_ptr, wSt_map, wSt_func, stP_cells, bit_one, bit_zero, bit_one', bit_zero', wBin_shr32, wBin_and1, wBin_rem2, wBin_andNot32, wBin_or32, wBin_and32, wBin_shl32, u32_eq_zero, u32_ne_zero, List.length_cons, List.length_nil, Nat.le_refl, Nat.reduceAdd, Nat.reduceMul, Nat.reduceLeDiff, Int.toNat_zero, Int.toNat_one, hg6, cellP_lit2]
    refine wCall_rule (of10 n' A es.length cap _ _) ?_
    rintro _ H7 nx7 ⟨rfl, hE7⟩
    have hEE7 := hEE6.trans hE7
    refine wCall_rule (bags16 hn (by omega) A es cap P l capP order _ _ (hS.ext hEE7) hsm hle (hP.ext hEE7) (hP0.ext hEE7) (by omega) hord hnd hlt hlen) ?_
    rintro _ H8 nx8 ⟨⟨R2, capR, rfl, hR2⟩, hE8⟩
    rw [hbs] at hR2
    have h15 := equal15 R' R2 bs n' capR H8 nx8 (hR'.ext (hE7.trans hE8)) hR2 (by omega)
    rw [hbl] at h15
    refine wCall_rule h15 ?_
    rintro _ H9 nx9 ⟨rfl, hE9⟩
    have hE69 := (hE7.trans hE8).trans hE9
    have hg9 := (hE69.get nx (by omega)).trans hg6
    simp (config := { maxSteps := 2000000 }) (disch := first | omega | assumption | exact shr_lt (by assumption) | exact ndiff32 (by assumption) | exact below_lt (by omega) | fail) only [List.getD_cons_zero, List.getD_cons_succ, wBin_lss, wBin_leq, wBin_gtr, wBin_geq, wBin_eql, wBin_neq, wIf_bool, wGuard_true, wGuard_false, wPick_true, wPick_false, wUn_not, wFld_eq, wExt_eq, wPart_one, wPart_agg, wLen_slice, wLen_string, wNew_eq, wNm_eq, dBox_agg, dBox_int, dBox_slice, dBox_string, dBox_bool, dBox_map, dBox_ptr, oneCells, wLd_none, wLd_2, wLd_3, wLd_32, ldP_cells, ldP_rom, cellP_one, getH_same, getH_ne, forceV_eq, forceN_eq, hsK_eq, Option.elim_some, List.getElem?_cons_zero, List.getElem?_cons_succ, Yld.val, decide_true, decide_false, if_true, if_false, Bool.false_eq_true, Nat.zero_add, Nat.add_zero, and_true, true_and, or_false, Bool.not_true, Bool.not_false, and_self, wBin_add64, wBin_sub64, wIdx_slice, wIdx_array, wNilc_eq, Int.toNat_natCast, Nat.mul_one, Nat.zero_mul, wSt_agg, wSt_int, wSt_bool, wSt_string, wSt_slice, wSt_ptr, wSt_map, wSt_func, stP_cells, bit_one, bit_zero, bit_one', bit_zero', wBin_shr32, wBin_and1, wBin_rem2, wBin_andNot32, wBin_or32, wBin_and32, wBin_shl32, u32_eq_zero, u32_ne_zero, List.length_cons, List.length_nil, Nat.le_refl, Nat.reduceAdd, Nat.reduceMul, Nat.reduceLeDiff, Int.toNat_zero, Int.toNat_one, hg9, cellP_lit2]
    have h8 := check8 n' f' A es cap R bs n' H9 nx9 (hS.ext (hEE6.trans hE69)) hsm (hR5.ext (hE6.trans hE69)) hkey
    rw [hbl] at h8
    refine wCall_rule h8 ?_
    rintro _ H10 nx10 ⟨rfl, hE10⟩
    have hchk : chk n' f' es bs = 0 := by rw [chk, hfc]; simpa using hgood
    rw [hchk]
    simp (config := { maxSteps := 2000000 }) (disch := first | omega | assumption | exact shr_lt (by assumption) | exact ndiff32 (by assumption) | exact below_lt (by omega) | fail) only [List.getD_cons_zero, List.getD_cons_succ, wBin_lss, wBin_leq, wBin_gtr, wBin_geq, wBin_eql, wBin_neq, wIf_bool, wGuard_true, wGuard_false, wPick_true, wPick_false, wUn_not, wFld_eq, wExt_eq, wPart_one, wPart_agg, wLen_slice, wLen_string, wNew_eq, wNm_eq, dBox_agg, dBox_int, dBox_slice, dBox_string, dBox_bool, dBox_map, dBox_ptr, oneCells, wLd_none, wLd_2, wLd_3, wLd_32, ldP_cells, ldP_rom, cellP_one, getH_same, getH_ne, forceV_eq, forceN_eq, hsK_eq, Option.elim_some, List.getElem?_cons_zero, List.getElem?_cons_succ, Yld.val, decide_true, decide_false, if_true, if_false, Bool.false_eq_true, Nat.zero_add, Nat.add_zero, and_true, true_and, or_false, Bool.not_true, Bool.not_false, and_self, wBin_add64, wBin_sub64, wIdx_slice, wIdx_array, wNilc_eq, Int.toNat_natCast, Nat.mul_one, Nat.zero_mul, wSt_agg, wSt_int, wSt_bool, wSt_string, wSt_slice, wSt_ptr, wSt_map, wSt_func, stP_cells, bit_one, bit_zero, bit_one', bit_zero', wBin_shr32, wBin_and1, wBin_rem2, wBin_andNot32, wBin_or32, wBin_and32, wBin_shl32, u32_eq_zero, u32_ne_zero, List.length_cons, List.length_nil, Nat.le_refl, Nat.reduceAdd, Nat.reduceMul, Nat.reduceLeDiff, Int.toNat_zero, Int.toNat_one, d5, hg9, hg6, hg5, cellP_lit2]
end Go.Proofs.Ytaieijjfabbfeaa
