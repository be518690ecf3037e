/-
  Contracts: bags, neighbors (texts of chapter 30, by name).
-/
import Derived.Test.YtdecggbglnbhlaaGreatDoorK15
import Derived.Test.YtdecggbglnbhlaaGreatDoorK16
set_option linter.unusedSimpArgs false
set_option linter.unusedVariables false
set_option linter.unusedSectionVars false
namespace Go.Proofs.YtdecggbglnbhlaaGreatDoor
open Go.Clo
structure Bag where
  var : Int
  key : Nat
  par : Int
def bagC (b : Bag) : List Value := [.int .i64 b.var, .int .u32 (b.key : Int), .int .i64 b.par]
abbrev bagV (b : Bag) : Value := .agg ⟨bagC b⟩
def bagsC (bs : List Bag) : List Value := bs.flatMap bagC
theorem bagsC_length (bs : List Bag) : (bagsC bs).length = bs.length * 3 := by
  induction bs with
  | nil => rfl
  | cons b bs ih => simp [bagsC, bagC] at ih ⊢; omega
theorem bagsC_get : ∀ {bs : List Bag} {i : Nat} {b : Bag}, bs[i]? = some b → ∀ j v, (bagC b)[j]? = some v → (bagsC bs)[i * 3 + j]? = some v
  | [], i, b, h, _, _, _ => by simp at h
  | b0 :: bs, 0, b, h, j, v, hv => by
    simp at h; subst h
    have hj := lt_len hv
    show (bagC b0 ++ bagsC bs)[0 * 3 + j]? = some v
    rw [List.getElem?_append_left (by simpa using hj)]; simpa using hv
  | b0 :: bs, i + 1, b, h, j, v, hv => by
    have := bagsC_get (bs := bs) (i := i) (by simpa using h) j v hv
    show (bagC b0 ++ bagsC bs)[(i + 1) * 3 + j]? = some v
    rw [List.getElem?_append_right (by simp [bagC]; omega)]
    have e : (i + 1) * 3 + j - (bagC b0).length = i * 3 + j := by simp [bagC]; omega
    rw [e]; exact this
def KeyOK (bs : List Bag) : Prop := ∀ b ∈ bs, b.key < 4294967296
theorem KeyOK.get {bs : List Bag} (h : KeyOK bs) {i : Nat} {b : Bag} (hb : bs[i]? = some b) : b.key < 4294967296 := h b (List.mem_of_getElem? hb)

/-- The vertices of a bag. -/
def setOf (b : Bag) : Nat := if b.var < 0 ∨ 32 ≤ b.var then b.key else b.key ||| 2 ^ b.var.toNat
theorem pow32 {n : Nat} (h : n < 32) : 2 ^ n < 4294967296 := Nat.lt_of_lt_of_le (Nat.pow_lt_pow_right (by omega) h) (by decide)
theorem setOf_lt {b : Bag} (h : b.key < 4294967296) : setOf b < 4294967296 := by
  unfold setOf
  split
  · exact h
  · exact or32 h (pow32 (by omega))
theorem set20 {b : Bag} (hk : b.key < 4294967296) (H : Heap) (nx : Nat) : Ans Tryz.prog 63 [bagV b] H nx fun r H' nx' => r = .int .u32 (setOf b : Int) ∧ Ext H nx H' nx' := by
  obtain ⟨var, key, par⟩ := b
  dsimp only at hk
  refine spec63 ?_
  unfold F63
  have hE : ∀ m, nx + 1 ≤ m → Ext H nx (hs H nx (some (.cells [.int .i64 var, .int .u32 (key : Int), .int .i64 par] 0))) m := fun m hm => (Ext.refl H nx).new _ (Nat.le_refl _) (by omega)
  simp only [bagV, bagC]
  by_cases h1 : var < 0
  · simp (disch := first | omega | assumption | exact shr_lt (by assumption) | exact ndiff32 (by assumption) | exact below_lt (by omega) | fail) only [List.getD_cons_zero, List.getD_cons_succ, wBin_lss, wBin_leq, wBin_gtr, wBin_geq, wBin_eql, wBin_neq, wIf_bool, wGuard_true, wGuard_false, wPick_true, wPick_false, wUn_not, wFld_eq, wExt_eq, wPart_one, wPart_agg, wLen_slice, wLen_string, wNew_eq, wNm_eq, dBox_agg, dBox_int, dBox_slice, dBox_string, dBox_bool, dBox_map, dBox_ptr, oneCells, wLd_none, wLd_2, wLd_3, wLd_32, ldP_cells, ldP_rom, cellP_one, getH_same, getH_ne, forceV_eq, forceN_eq, hsK_eq, Option.elim_some, List.getElem?_cons_zero, List.getElem?_cons_succ, Yld.val, decide_true, decide_false, if_true, if_false, Bool.false_eq_true, Nat.zero_add, Nat.add_zero, and_true, true_and, or_false, Bool.not_true, Bool.not_false, and_self, wBin_add64, wBin_sub64, wIdx_slice, wIdx_array, wNilc_eq, Int.toNat_natCast, Nat.mul_one, Nat.zero_mul, wSt_agg, wSt_int, wSt_bool, wSt_string, wSt_slice, wSt_ptr, wSt_map, wSt_func, stP_cells, bit_one, bit_zero, bit_one', bit_zero', wBin_shr32, wBin_and1, wBin_rem2, wBin_andNot32, wBin_or32, wBin_and32, wBin_shl32, u32_eq_zero, u32_ne_zero, List.length_cons, List.length_nil, Nat.le_refl, Nat.reduceAdd, Nat.reduceMul, Nat.reduceLeDiff, Int.toNat_zero, Int.toNat_one, wJoin_eq, h1]
    exact ⟨by rw [setOf, if_pos (.inl h1)], hE _ (by omega)⟩
  by_cases h2 : 32 ≤ var
  · simp (disch := first | omega | assumption | exact shr_lt (by assumption) | exact ndiff32 (by assumption) | exact below_lt (by omega) | fail) only [List.getD_cons_zero, List.getD_cons_succ, wBin_lss, wBin_leq, wBin_gtr, wBin_geq, wBin_eql, wBin_neq, wIf_bool, wGuard_true, wGuard_false, wPick_true, wPick_false, wUn_not, wFld_eq, wExt_eq, wPart_one, wPart_agg, wLen_slice, wLen_string, wNew_eq, wNm_eq, dBox_agg, dBox_int, dBox_slice, dBox_string, dBox_bool, dBox_map, dBox_ptr, oneCells, wLd_none, wLd_2, wLd_3, wLd_32, ldP_cells, ldP_rom, cellP_one, getH_same, getH_ne, forceV_eq, forceN_eq, hsK_eq, Option.elim_some, List.getElem?_cons_zero, List.getElem?_cons_succ, Yld.val, decide_true, decide_false, if_true, if_false, Bool.false_eq_true, Nat.zero_add, Nat.add_zero, and_true, true_and, or_false, Bool.not_true, Bool.not_false, and_self, wBin_add64, wBin_sub64, wIdx_slice, wIdx_array, wNilc_eq, Int.toNat_natCast, Nat.mul_one, Nat.zero_mul, wSt_agg, wSt_int, wSt_bool, wSt_string, wSt_slice, wSt_ptr, wSt_map, wSt_func, stP_cells, bit_one, bit_zero, bit_one', bit_zero', wBin_shr32, wBin_and1, wBin_rem2, wBin_andNot32, wBin_or32, wBin_and32, wBin_shl32, u32_eq_zero, u32_ne_zero, List.length_cons, List.length_nil, Nat.le_refl, Nat.reduceAdd, Nat.reduceMul, Nat.reduceLeDiff, Int.toNat_zero, Int.toNat_one, wJoin_eq, h1, h2]
    exact ⟨by rw [setOf, if_pos (.inr h2)], hE _ (by omega)⟩
  obtain ⟨p, rfl⟩ := Int.eq_ofNat_of_zero_le (show 0 ≤ var by omega)
  have hp := pow32 (show p < 32 by omega)
  simp (disch := first | omega | assumption | exact shr_lt (by assumption) | exact ndiff32 (by assumption) | exact below_lt (by omega) | fail) only [List.getD_cons_zero, List.getD_cons_succ, wBin_lss, wBin_leq, wBin_gtr, wBin_geq, wBin_eql, wBin_neq, wIf_bool, wGuard_true, wGuard_false, wPick_true, wPick_false, wUn_not, wFld_eq, wExt_eq, wPart_one, wPart_agg, wLen_slice, wLen_string, wNew_eq, wNm_eq, dBox_agg, dBox_int, dBox_slice, dBox_string, dBox_bool, dBox_map, dBox_ptr, oneCells, wLd_none, wLd_2, wLd_3, wLd_32, ldP_cells, ldP_rom, cellP_one, getH_same, getH_ne, forceV_eq, forceN_eq, hsK_eq, Option.elim_some, List.getElem?_cons_zero, List.getElem?_cons_succ, Yld.val, decide_true, decide_false, if_true, if_false, Bool.false_eq_true, Nat.zero_add, Nat.add_zero, and_true, true_and, or_false, Bool.not_true, Bool.not_false, and_self, wBin_add64, wBin_sub64, wIdx_slice, wIdx_array, wNilc_eq, Int.toNat_natCast, Nat.mul_one, Nat.zero_mul, wSt_agg, wSt_int, wSt_bool, wSt_string, wSt_slice, wSt_ptr, wSt_map, wSt_func, stP_cells, bit_one, bit_zero, bit_one', bit_zero', wBin_shr32, wBin_and1, wBin_rem2, wBin_andNot32, wBin_or32, wBin_and32, wBin_shl32, u32_eq_zero, u32_ne_zero, List.length_cons, List.length_nil, Nat.le_refl, Nat.reduceAdd, Nat.reduceMul, Nat.reduceLeDiff, Int.toNat_zero, Int.toNat_one, wJoin_eq, h1, h2]
  exact ⟨by rw [setOf, if_neg (by dsimp only; omega)]; rfl, hE _ (by omega)⟩
theorem take_all {α : Type} {l : List α} {i : Nat} (h : ¬ i < l.length) : l.take i = l := List.take_of_length_le (by omega)
theorem fcode_inv {N free : Int} {es : List Nat} (h : fcode N free es = 0) : ∃ n f : Nat, N = n ∧ free = f ∧ n ≤ 32 ∧ f ≤ n ∧ es.length ≤ 64 ∧ ∀ e ∈ es, e < 2 ^ n := by
  unfold fcode at h
  split at h
  · rename_i hg; exact absurd h hg
  · rename_i hg
    split at h
    · cases h
    · rename_i hf
      have hg : gcode N es = 0 := Decidable.of_not_not hg
      unfold gcode at hg
      split at hg
      · cases hg
      · rename_i h1
        split at hg
        · cases hg
        · rename_i h2
          split at hg
          · cases hg
          · rename_i h3
            obtain ⟨n, rfl⟩ := Int.eq_ofNat_of_zero_le (show 0 ≤ N by omega)
            obtain ⟨f, rfl⟩ := Int.eq_ofNat_of_zero_le (show 0 ≤ free by omega)
            refine ⟨n, f, rfl, rfl, by omega, by omega, by omega, fun e he => ?_⟩
            rcases Nat.lt_or_ge e (2 ^ n) with g | g
            · exact g
            · exact absurd ⟨e, he, by simpa using g⟩ h3

theorem wBin_add32 {a b : Nat} {k : VP} (h : a + b < 4294967296) : wBin .add (.int .u32 (a : Int)) (.int .u32 (b : Int)) k = k (.int .u32 ((a + b : Nat) : Int)) := by
  rw [wBin_add, ← Int.natCast_add, u32_wrap h]

/-- A permutation of the numbers from f to n - 1. -/
def permOK (l : List Int) (f n : Nat) : Prop := l.length + f = n ∧ (∀ x ∈ l, (f : Int) ≤ x ∧ x < (n : Int)) ∧ l.Nodup

theorem take_next {α : Type} {l : List α} {i : Nat} {x : α} (h : l[i]? = some x) : l.take (i + 1) = l.take i ++ [x] := by
  rw [List.take_add_one, h]; rfl
theorem nodup_snoc {α : Type} {l : List α} {x : α} (h : l.Nodup) (hx : x ∉ l) : (l ++ [x]).Nodup := by
  rw [List.nodup_append]
  exact ⟨h, by simp, fun a ha b hb => by simp at hb; subst hb; intro e; subst e; exact hx ha⟩

/-- Two vertices share an edge. -/
def adj (es : List Nat) (a b : Nat) : Bool := decide (a ≠ b) && es.any fun e => e.testBit a && e.testBit b

theorem adj_self (es : List Nat) (a : Nat) : adj es a a = false := by simp [adj]
theorem adj_symm (es : List Nat) (a b : Nat) : adj es a b = adj es b a := by
  unfold adj
  congr 1
  · simp [eq_comm]
  · congr 1; funext e; rw [Bool.and_comm]

/-- The set of the numbers below n with a property. -/
def maskOf (p : Nat → Bool) : Nat → Nat
  | 0 => 0
  | n + 1 => if p n then maskOf p n + 2 ^ n else maskOf p n
theorem maskOf_lt (p : Nat → Bool) : ∀ n, maskOf p n < 2 ^ n
  | 0 => by simp [maskOf]
  | n + 1 => by
    have := maskOf_lt p n
    have h2 : 2 ^ (n + 1) = 2 ^ n + 2 ^ n := by rw [Nat.pow_succ]; omega
    unfold maskOf
    split <;> omega
theorem maskOf_bit (p : Nat → Bool) : ∀ n i, (maskOf p n).testBit i = (decide (i < n) && p i)
  | 0, i => by simp [maskOf]
  | n + 1, i => by
    have hlt := maskOf_lt p n
    have ih := maskOf_bit p n i
    unfold maskOf
    by_cases hp : p n = true
    · rw [if_pos hp, Nat.add_comm]
      by_cases hi : i = n
      · subst hi
        rw [Nat.testBit_two_pow_add_eq, Nat.testBit_lt_two_pow hlt]; simp [hp]
      · rcases Nat.lt_or_gt_of_ne hi with h | h
        · rw [Nat.testBit_two_pow_add_gt h, ih]; simp [h, Nat.lt_succ_of_lt h]
        · have h3 : 2 ^ n + maskOf p n < 2 ^ i := by
            have : 2 ^ (n + 1) ≤ 2 ^ i := Nat.pow_le_pow_right (by omega) (by omega)
            have h2 : 2 ^ (n + 1) = 2 ^ n + 2 ^ n := by rw [Nat.pow_succ]; omega
            omega
          rw [Nat.testBit_lt_two_pow h3]
          have : ¬ i < n + 1 := by omega
          simp [this]
    · rw [if_neg hp, ih]
      by_cases hi : i = n
      · subst hi; simp [hp]
      · have : decide (i < n + 1) = decide (i < n) := by congr 1; apply propext; omega
        rw [this]

/-- The numbers from f - 1 down to f - i. -/
def downTo (f : Nat) : Nat → List Int
  | 0 => []
  | i + 1 => downTo f i ++ [((f : Int) - 1 - i)]
theorem downTo_length (f : Nat) : ∀ i, (downTo f i).length = i
  | 0 => rfl
  | i + 1 => by simp [downTo, downTo_length f i]
theorem i64s_append (a b : List Int) : i64s (a ++ b) = i64s a ++ i64s b := by simp [i64s]
theorem zeros32 : [Value.int .u32 0, .int .u32 0, .int .u32 0, .int .u32 0, .int .u32 0, .int .u32 0, .int .u32 0, .int .u32 0, .int .u32 0, .int .u32 0, .int .u32 0, .int .u32 0, .int .u32 0, .int .u32 0, .int .u32 0, .int .u32 0, .int .u32 0, .int .u32 0, .int .u32 0, .int .u32 0, .int .u32 0, .int .u32 0, .int .u32 0, .int .u32 0, .int .u32 0, .int .u32 0, .int .u32 0, .int .u32 0, .int .u32 0, .int .u32 0, .int .u32 0, .int .u32 0] = u32s (List.replicate 32 0) := rfl
theorem cellP_u32s {l : List Nat} (h : l.length = 32) (k : VP) : cellP (u32s l) 0 (some 32) k = k (.agg ⟨u32s l⟩) := by
  rw [cellP_agg]
  have : (u32s l).length = 32 := by rw [u32s_length]; exact h
  simp [← this]
theorem oneCells_u32s : ∀ l : List Nat, oneCells (u32s l) = true
  | [] => rfl
  | x :: l => oneCells_u32s l

/-- One edge more. -/
def accE (v m e : Nat) : Nat := if e.testBit v then m ||| ndiff e (2 ^ v) else m
def accA (es : List Nat) (v : Nat) : Nat := es.foldl (accE v) 0
theorem accA_next {es : List Nat} {i e v : Nat} (h : es[i]? = some e) : accA (es.take (i + 1)) v = accE v (accA (es.take i) v) e := by
  unfold accA; rw [take_next h, List.foldl_append]; rfl
theorem accF_bit (v w : Nat) : ∀ (es : List Nat) (m : Nat), (es.foldl (accE v) m).testBit w = (m.testBit w || es.any fun e => e.testBit v && (e.testBit w && decide (w ≠ v)))
  | [], m => by simp
  | e :: es, m => by
    rw [List.foldl_cons, accF_bit v w es, List.any_cons, ← Bool.or_assoc]
    congr 1
    unfold accE
    split
    · rename_i h
      rw [Nat.testBit_or, ndiff_bit, Nat.testBit_two_pow, h]
      have : decide (v = w) = decide (w = v) := by congr 1; apply propext; exact eq_comm
      rw [this]
      simp
    · rename_i h
      simp at h; simp [h]
theorem accA_bit (es : List Nat) (v w : Nat) : (accA es v).testBit w = adj es v w := by
  unfold accA
  rw [accF_bit, Nat.zero_testBit, Bool.false_or]
  unfold adj
  by_cases h : v = w
  · subst h; simp
  · have h' : w ≠ v := fun e => h e.symm
    simp [h, h']
theorem accA_eq {es : List Nat} {n : Nat} (h : ∀ e ∈ es, e < 2 ^ n) (v : Nat) : accA es v = maskOf (adj es v) n := by
  apply Nat.eq_of_testBit_eq
  intro w
  rw [accA_bit, maskOf_bit]
  by_cases hw : w < n
  · simp [hw]
  · simp only [hw, decide_false, Bool.false_and]
    unfold adj
    rw [Bool.eq_false_iff]
    intro hc
    simp only [Bool.and_eq_true, List.any_eq_true] at hc
    obtain ⟨_, e, he, _, hb⟩ := hc
    rw [Nat.testBit_lt_two_pow (Nat.lt_of_lt_of_le (h e he) (Nat.pow_le_pow_right (by omega) (by omega)))] at hb
    cases hb
theorem accA_lt {es : List Nat} (h : Small es) (v : Nat) : accA es v < 4294967296 := by
  rw [accA_eq (n := 32) (fun e he => h e he) v]
  exact maskOf_lt _ 32
theorem small_take {es : List Nat} (h : Small es) (i : Nat) : Small (es.take i) := fun e he => h e (List.mem_of_mem_take he)

/-- The array of the neighbors. -/
def nears (es : List Nat) (n : Nat) : List Nat := (List.range 32).map fun v => if v < n then maskOf (adj es v) n else 0
theorem nears_get (es : List Nat) {n v : Nat} (hn : n ≤ 32) (hv : v < n) : (nears es n)[v]? = some (maskOf (adj es v) n) := by
  have : v < 32 := by omega
  simp [nears, hv, this]
theorem list_ext32 {l l' : List Nat} (h : l.length = 32) (h' : l'.length = 32) (hg : ∀ v, v < 32 → l[v]? = l'[v]?) : l = l' := by
  apply List.ext_getElem?
  intro v
  by_cases hv : v < 32
  · exact hg v hv
  · rw [List.getElem?_eq_none (by omega), List.getElem?_eq_none (by omega)]
theorem nears_len (es : List Nat) (n : Nat) : (nears es n).length = 32 := by simp [nears]

theorem adj69 {n : Nat} (hn : n ≤ 32) (A : Option Addr) (es : List Nat) (cap : Nat) (H : Heap) (nx : Nat) (hS : Sl H nx A (u32s es)) (hsm : ∀ e ∈ es, e < 2 ^ n) (hle : es.length ≤ 64) :
    Ans Tryz.prog 37 [gv n A es.length cap] H nx fun r H' nx' => r = .agg ⟨u32s (nears es n)⟩ ∧ Ext H nx H' nx' := by
  have hsm32 : Small es := fun e he => Nat.lt_of_lt_of_le (hsm e he) (Nat.le_trans (Nat.pow_le_pow_right (by omega) hn) (by decide))
  refine spec37 ?_
  unfold F37
  simp (disch := first | omega | assumption | exact shr_lt (by assumption) | exact ndiff32 (by assumption) | exact below_lt (by omega) | fail) only [List.getD_cons_zero, List.getD_cons_succ, wBin_lss, wBin_leq, wBin_gtr, wBin_geq, wBin_eql, wBin_neq, wIf_bool, wGuard_true, wGuard_false, wPick_true, wPick_false, wUn_not, wFld_eq, wExt_eq, wPart_one, wPart_agg, wLen_slice, wLen_string, wNew_eq, wNm_eq, dBox_agg, dBox_int, dBox_slice, dBox_string, dBox_bool, dBox_map, dBox_ptr, oneCells, wLd_none, wLd_2, wLd_3, wLd_32, ldP_cells, ldP_rom, cellP_one, getH_same, getH_ne, forceV_eq, forceN_eq, hsK_eq, Option.elim_some, List.getElem?_cons_zero, List.getElem?_cons_succ, Yld.val, decide_true, decide_false, if_true, if_false, Bool.false_eq_true, Nat.zero_add, Nat.add_zero, and_true, true_and, or_false, Bool.not_true, Bool.not_false, and_self, wBin_add64, wBin_sub64, wIdx_slice, wIdx_array, wNilc_eq, Int.toNat_natCast, Nat.mul_one, Nat.zero_mul, wSt_agg, wSt_int, wSt_bool, wSt_string, wSt_slice, wSt_ptr, wSt_map, wSt_func, stP_cells, bit_one, bit_zero, bit_one', bit_zero', wBin_shr32, wBin_and1, wBin_rem2, wBin_andNot32, wBin_or32, wBin_and32, wBin_shl32, u32_eq_zero, u32_ne_zero, List.length_cons, List.length_nil, Nat.le_refl, Nat.reduceAdd, Nat.reduceMul, Nat.reduceLeDiff, Int.toNat_zero, Int.toNat_one, zeros32]
  generalize hK : hs (hs (hs H nx (some (.cells [.int .i64 n, .slice A es.length cap] 0))) (nx + 1) (some (.cells (u32s (List.replicate 32 0)) 0))) (nx + 1 + 1) (some (.cells (u32s (List.replicate 32 0)) 0)) = K
  have kG : getH K nx = some (.cells [.int .i64 n, .slice A es.length cap] 0) := by rw [← hK, getH_ne _ (by omega), getH_ne _ (by omega), getH_same]
  have kR : getH K (nx + 1) = some (.cells (u32s (List.replicate 32 0)) 0) := by rw [← hK, getH_ne _ (by omega), getH_same]
  have kA : getH K (nx + 1 + 1) = some (.cells (u32s (List.replicate 32 0)) 0) := by rw [← hK, getH_same]
  have hEK : Ext H nx K (nx + 3) := by
    rw [← hK]; exact ((((Ext.refl H nx).new _ (by omega) (by omega) : Ext H nx _ (nx + 1)).new _ (by omega) (by omega) : Ext H nx _ (nx + 1 + 1)).new _ (by omega) (by omega))
  refine wLoop_rule (m := es.length) (fun m L H' nx' => ∃ (i : Nat) (l : List Nat), m + i = es.length ∧ L = [.int .i64 (i : Int)] ∧ l.length = 32 ∧ (∀ v, v < 32 → l[v]? = some (if v < n then accA (es.take i) v else 0)) ∧
    getH H' (nx + 1 + 1) = some (.cells (u32s l) 0) ∧ Ext K (nx + 2) H' nx' ∧ nx + 3 ≤ nx') ?_ ⟨0, List.replicate 32 0, rfl, rfl, by simp, fun v hv => by rw [List.getElem?_replicate, if_pos hv]; simp [accA], kA, Ext.self (by omega), Nat.le_refl _⟩
  rintro m ih L H2 nx2 ⟨i, l, hm, rfl, hl, hval, hg, hE2, hnx2⟩ hih
  have g2 := (hE2.get nx (by omega)).trans kG
  have r2 := (hE2.get (nx + 1) (by omega)).trans kR
  have hEE2 : Ext H nx H2 nx2 := ⟨by omega, fun q hq => (hE2.get q (by omega)).trans (hEK.get q hq)⟩
  simp (disch := first | omega | assumption | exact shr_lt (by assumption) | exact ndiff32 (by assumption) | exact below_lt (by omega) | fail) only [List.getD_cons_zero, List.getD_cons_succ, wBin_lss, wBin_leq, wBin_gtr, wBin_geq, wBin_eql, wBin_neq, wIf_bool, wGuard_true, wGuard_false, wPick_true, wPick_false, wUn_not, wFld_eq, wExt_eq, wPart_one, wPart_agg, wLen_slice, wLen_string, wNew_eq, wNm_eq, dBox_agg, dBox_int, dBox_slice, dBox_string, dBox_bool, dBox_map, dBox_ptr, oneCells, wLd_none, wLd_2, wLd_3, wLd_32, ldP_cells, ldP_rom, cellP_one, getH_same, getH_ne, forceV_eq, forceN_eq, hsK_eq, Option.elim_some, List.getElem?_cons_zero, List.getElem?_cons_succ, Yld.val, decide_true, decide_false, if_true, if_false, Bool.false_eq_true, Nat.zero_add, Nat.add_zero, and_true, true_and, or_false, Bool.not_true, Bool.not_false, and_self, wBin_add64, wBin_sub64, wIdx_slice, wIdx_array, wNilc_eq, Int.toNat_natCast, Nat.mul_one, Nat.zero_mul, wSt_agg, wSt_int, wSt_bool, wSt_string, wSt_slice, wSt_ptr, wSt_map, wSt_func, stP_cells, bit_one, bit_zero, bit_one', bit_zero', wBin_shr32, wBin_and1, wBin_rem2, wBin_andNot32, wBin_or32, wBin_and32, wBin_shl32, u32_eq_zero, u32_ne_zero, List.length_cons, List.length_nil, Nat.le_refl, Nat.reduceAdd, Nat.reduceMul, Nat.reduceLeDiff, Int.toNat_zero, Int.toNat_one]
  by_cases hi : i < es.length
  case neg =>
    have hi' : ¬ (i : Int) < (es.length : Int) := by omega
    have hll : l = nears es n := by
      refine list_ext32 hl (nears_len es n) fun v hv => ?_
      rw [hval v hv, take_all hi]
      simp only [nears, List.getElem?_map, List.getElem?_range hv, Option.map_some]
      split
      · rw [accA_eq hsm]
      · rfl
    subst hll
    have e1 : (u32s (nears es n)).length = 32 := by rw [u32s_length]; exact hl
    have e2 : (u32s (List.replicate 32 0)).length = 32 := by rw [u32s_length]; simp
    have e3 := putL_all (c := u32s (List.replicate 32 0)) (vs := u32s (nears es n)) (by rw [e1, e2])
    have e4 := oneCells_u32s (nears es n)
    simp (disch := first | omega | assumption | exact shr_lt (by assumption) | exact ndiff32 (by assumption) | exact below_lt (by omega) | fail) only [List.getD_cons_zero, List.getD_cons_succ, wBin_lss, wBin_leq, wBin_gtr, wBin_geq, wBin_eql, wBin_neq, wIf_bool, wGuard_true, wGuard_false, wPick_true, wPick_false, wUn_not, wFld_eq, wExt_eq, wPart_one, wPart_agg, wLen_slice, wLen_string, wNew_eq, wNm_eq, dBox_agg, dBox_int, dBox_slice, dBox_string, dBox_bool, dBox_map, dBox_ptr, oneCells, wLd_none, wLd_2, wLd_3, wLd_32, ldP_cells, ldP_rom, cellP_one, getH_same, getH_ne, forceV_eq, forceN_eq, hsK_eq, Option.elim_some, List.getElem?_cons_zero, List.getElem?_cons_succ, Yld.val, decide_true, decide_false, if_true, if_false, Bool.false_eq_true, Nat.zero_add, Nat.add_zero, and_true, true_and, or_false, Bool.not_true, Bool.not_false, and_self, wBin_add64, wBin_sub64, wIdx_slice, wIdx_array, wNilc_eq, Int.toNat_natCast, Nat.mul_one, Nat.zero_mul, wSt_agg, wSt_int, wSt_bool, wSt_string, wSt_slice, wSt_ptr, wSt_map, wSt_func, stP_cells, bit_one, bit_zero, bit_one', bit_zero', wBin_shr32, wBin_and1, wBin_rem2, wBin_andNot32, wBin_or32, wBin_and32, wBin_shl32, u32_eq_zero, u32_ne_zero, List.length_cons, List.length_nil, Nat.le_refl, Nat.reduceAdd, Nat.reduceMul, Nat.reduceLeDiff, Int.toNat_zero, Int.toNat_one, hi', hg, cellP_u32s hl, e1, e2, e4, r2, e3]
    exact hEE2.hs (by omega)
  have hi' : (i : Int) < (es.length : Int) := by omega
  obtain ⟨e, he⟩ : ∃ e, es[i]? = some e := ⟨_, List.getElem?_eq_getElem hi⟩
  obtain ⟨A, oA, rowA, rfl, hAn, hrowA, hgetA⟩ := (hS.ext hEE2).open (i := i) (by rw [u32s_length]; omega)
  have he32 := hsm32.get he
  have g0 := hgetA _ _ (u32s_get he)
  simp (disch := first | omega | assumption | exact shr_lt (by assumption) | exact ndiff32 (by assumption) | exact below_lt (by omega) | fail) only [List.getD_cons_zero, List.getD_cons_succ, wBin_lss, wBin_leq, wBin_gtr, wBin_geq, wBin_eql, wBin_neq, wIf_bool, wGuard_true, wGuard_false, wPick_true, wPick_false, wUn_not, wFld_eq, wExt_eq, wPart_one, wPart_agg, wLen_slice, wLen_string, wNew_eq, wNm_eq, dBox_agg, dBox_int, dBox_slice, dBox_string, dBox_bool, dBox_map, dBox_ptr, oneCells, wLd_none, wLd_2, wLd_3, wLd_32, ldP_cells, ldP_rom, cellP_one, getH_same, getH_ne, forceV_eq, forceN_eq, hsK_eq, Option.elim_some, List.getElem?_cons_zero, List.getElem?_cons_succ, Yld.val, decide_true, decide_false, if_true, if_false, Bool.false_eq_true, Nat.zero_add, Nat.add_zero, and_true, true_and, or_false, Bool.not_true, Bool.not_false, and_self, wBin_add64, wBin_sub64, wIdx_slice, wIdx_array, wNilc_eq, Int.toNat_natCast, Nat.mul_one, Nat.zero_mul, wSt_agg, wSt_int, wSt_bool, wSt_string, wSt_slice, wSt_ptr, wSt_map, wSt_func, stP_cells, bit_one, bit_zero, bit_one', bit_zero', wBin_shr32, wBin_and1, wBin_rem2, wBin_andNot32, wBin_or32, wBin_and32, wBin_shl32, u32_eq_zero, u32_ne_zero, List.length_cons, List.length_nil, Nat.le_refl, Nat.reduceAdd, Nat.reduceMul, Nat.reduceLeDiff, Int.toNat_zero, Int.toNat_one, hi', ldP_row hrowA, g0, g2]
  refine wLoop_rule (m := n) (fun m L H' nx' => ∃ (j : Nat) (l : List Nat), m + j = n ∧ L = [.int .i64 (j : Int)] ∧ l.length = 32 ∧ (∀ v, v < 32 → l[v]? = some (if v < n then (if v < j then accA (es.take (i + 1)) v else accA (es.take i) v) else 0)) ∧
    getH H' (nx + 1 + 1) = some (.cells (u32s l) 0) ∧ Ext K (nx + 2) H' nx' ∧ nx + 3 ≤ nx') ?_ ⟨0, l, rfl, rfl, hl, fun v hv => by rw [hval v hv]; simp, hg, hE2, hnx2⟩
  rintro m3 ih3 L3 H3 nx3 ⟨j, l3, hm3, rfl, hl3, hval3, hg3, hE3, hnx3⟩ hih3
  simp (disch := first | omega | assumption | exact shr_lt (by assumption) | exact ndiff32 (by assumption) | exact below_lt (by omega) | fail) only [List.getD_cons_zero, List.getD_cons_succ, wBin_lss, wBin_leq, wBin_gtr, wBin_geq, wBin_eql, wBin_neq, wIf_bool, wGuard_true, wGuard_false, wPick_true, wPick_false, wUn_not, wFld_eq, wExt_eq, wPart_one, wPart_agg, wLen_slice, wLen_string, wNew_eq, wNm_eq, dBox_agg, dBox_int, dBox_slice, dBox_string, dBox_bool, dBox_map, dBox_ptr, oneCells, wLd_none, wLd_2, wLd_3, wLd_32, ldP_cells, ldP_rom, cellP_one, getH_same, getH_ne, forceV_eq, forceN_eq, hsK_eq, Option.elim_some, List.getElem?_cons_zero, List.getElem?_cons_succ, Yld.val, decide_true, decide_false, if_true, if_false, Bool.false_eq_true, Nat.zero_add, Nat.add_zero, and_true, true_and, or_false, Bool.not_true, Bool.not_false, and_self, wBin_add64, wBin_sub64, wIdx_slice, wIdx_array, wNilc_eq, Int.toNat_natCast, Nat.mul_one, Nat.zero_mul, wSt_agg, wSt_int, wSt_bool, wSt_string, wSt_slice, wSt_ptr, wSt_map, wSt_func, stP_cells, bit_one, bit_zero, bit_one', bit_zero', wBin_shr32, wBin_and1, wBin_rem2, wBin_andNot32, wBin_or32, wBin_and32, wBin_shl32, u32_eq_zero, u32_ne_zero, List.length_cons, List.length_nil, Nat.le_refl, Nat.reduceAdd, Nat.reduceMul, Nat.reduceLeDiff, Int.toNat_zero, Int.toNat_one]
  by_cases hj : j < n
  case neg =>
    have hj' : ¬ (j : Int) < (n : Int) := by omega
    simp (disch := first | omega | assumption | exact shr_lt (by assumption) | exact ndiff32 (by assumption) | exact below_lt (by omega) | fail) only [List.getD_cons_zero, List.getD_cons_succ, wBin_lss, wBin_leq, wBin_gtr, wBin_geq, wBin_eql, wBin_neq, wIf_bool, wGuard_true, wGuard_false, wPick_true, wPick_false, wUn_not, wFld_eq, wExt_eq, wPart_one, wPart_agg, wLen_slice, wLen_string, wNew_eq, wNm_eq, dBox_agg, dBox_int, dBox_slice, dBox_string, dBox_bool, dBox_map, dBox_ptr, oneCells, wLd_none, wLd_2, wLd_3, wLd_32, ldP_cells, ldP_rom, cellP_one, getH_same, getH_ne, forceV_eq, forceN_eq, hsK_eq, Option.elim_some, List.getElem?_cons_zero, List.getElem?_cons_succ, Yld.val, decide_true, decide_false, if_true, if_false, Bool.false_eq_true, Nat.zero_add, Nat.add_zero, and_true, true_and, or_false, Bool.not_true, Bool.not_false, and_self, wBin_add64, wBin_sub64, wIdx_slice, wIdx_array, wNilc_eq, Int.toNat_natCast, Nat.mul_one, Nat.zero_mul, wSt_agg, wSt_int, wSt_bool, wSt_string, wSt_slice, wSt_ptr, wSt_map, wSt_func, stP_cells, bit_one, bit_zero, bit_one', bit_zero', wBin_shr32, wBin_and1, wBin_rem2, wBin_andNot32, wBin_or32, wBin_and32, wBin_shl32, u32_eq_zero, u32_ne_zero, List.length_cons, List.length_nil, Nat.le_refl, Nat.reduceAdd, Nat.reduceMul, Nat.reduceLeDiff, Int.toNat_zero, Int.toNat_one, hj']
    refine hih (m - 1) _ _ _ (by omega) ⟨i + 1, l3, by omega, by simp, hl3, fun v hv => ?_, hg3, hE3, hnx3⟩
    rw [hval3 v hv]
    by_cases hvn : v < n
    · rw [if_pos hvn, if_pos hvn, if_pos (by omega)]
    · rw [if_neg hvn, if_neg hvn]
  have hj' : (j : Int) < (n : Int) := by omega
  have hcur : l3[j]? = some (accA (es.take i) j) := by rw [hval3 j (by omega), if_pos hj, if_neg (by omega)]
  have hacc := accA_lt (small_take hsm32 i) j
  have hp : 2 ^ j < 4294967296 := pow32 (by omega)
  have step : ∀ x, x = accA (es.take (i + 1)) j → ∀ v, v < 32 → (l3.set j x)[v]? = some (if v < n then (if v < j + 1 then accA (es.take (i + 1)) v else accA (es.take i) v) else 0) := by
    intro x hx v hv
    rw [List.getElem?_set]
    by_cases hvj : j = v
    · subst hvj; rw [if_pos rfl, if_pos (by omega), if_pos hj, if_pos (by omega), hx]
    · rw [if_neg hvj, hval3 v hv]
      by_cases hvn : v < n
      · rw [if_pos hvn, if_pos hvn]
        by_cases hlt : v < j
        · rw [if_pos hlt, if_pos (by omega)]
        · rw [if_neg hlt, if_neg (by omega)]
      · rw [if_neg hvn, if_neg hvn]
  cases hb : e.testBit j with
  | false =>
    have hsame : l3.set j (accA (es.take i) j) = l3 := by
      apply List.ext_getElem?
      intro v
      rw [List.getElem?_set]
      split
      · rename_i h; subst h; rw [if_pos (by omega), hcur]
      · rfl
    have hx := step (accA (es.take i) j) (by rw [accA_next he, accE, if_neg (by simp [hb])])
    rw [hsame] at hx
    simp (disch := first | omega | assumption | exact shr_lt (by assumption) | exact ndiff32 (by assumption) | exact below_lt (by omega) | fail) only [List.getD_cons_zero, List.getD_cons_succ, wBin_lss, wBin_leq, wBin_gtr, wBin_geq, wBin_eql, wBin_neq, wIf_bool, wGuard_true, wGuard_false, wPick_true, wPick_false, wUn_not, wFld_eq, wExt_eq, wPart_one, wPart_agg, wLen_slice, wLen_string, wNew_eq, wNm_eq, dBox_agg, dBox_int, dBox_slice, dBox_string, dBox_bool, dBox_map, dBox_ptr, oneCells, wLd_none, wLd_2, wLd_3, wLd_32, ldP_cells, ldP_rom, cellP_one, getH_same, getH_ne, forceV_eq, forceN_eq, hsK_eq, Option.elim_some, List.getElem?_cons_zero, List.getElem?_cons_succ, Yld.val, decide_true, decide_false, if_true, if_false, Bool.false_eq_true, Nat.zero_add, Nat.add_zero, and_true, true_and, or_false, Bool.not_true, Bool.not_false, and_self, wBin_add64, wBin_sub64, wIdx_slice, wIdx_array, wNilc_eq, Int.toNat_natCast, Nat.mul_one, Nat.zero_mul, wSt_agg, wSt_int, wSt_bool, wSt_string, wSt_slice, wSt_ptr, wSt_map, wSt_func, stP_cells, bit_one, bit_zero, bit_one', bit_zero', wBin_shr32, wBin_and1, wBin_rem2, wBin_andNot32, wBin_or32, wBin_and32, wBin_shl32, u32_eq_zero, u32_ne_zero, List.length_cons, List.length_nil, Nat.le_refl, Nat.reduceAdd, Nat.reduceMul, Nat.reduceLeDiff, Int.toNat_zero, Int.toNat_one, hj', wJoin_eq, hb]
    exact hih3 (m3 - 1) _ _ _ (by omega) ⟨j + 1, l3, by omega, by simp, hl3, hx, hg3, hE3, hnx3⟩
  | true =>
    have hnd : ndiff e (2 ^ j) < 4294967296 := ndiff32 he32
    have hjl : j < l3.length := by omega
    have hx := step (accA (es.take i) j ||| ndiff e (2 ^ j)) (by rw [accA_next he, accE, if_pos hb])
    have gc := u32s_get hcur
    have hlen3 : (u32s l3).length = 32 := by rw [u32s_length]; exact hl3
    simp (disch := first | omega | assumption | exact shr_lt (by assumption) | exact ndiff32 (by assumption) | exact below_lt (by omega) | fail) only [List.getD_cons_zero, List.getD_cons_succ, wBin_lss, wBin_leq, wBin_gtr, wBin_geq, wBin_eql, wBin_neq, wIf_bool, wGuard_true, wGuard_false, wPick_true, wPick_false, wUn_not, wFld_eq, wExt_eq, wPart_one, wPart_agg, wLen_slice, wLen_string, wNew_eq, wNm_eq, dBox_agg, dBox_int, dBox_slice, dBox_string, dBox_bool, dBox_map, dBox_ptr, oneCells, wLd_none, wLd_2, wLd_3, wLd_32, ldP_cells, ldP_rom, cellP_one, getH_same, getH_ne, forceV_eq, forceN_eq, hsK_eq, Option.elim_some, List.getElem?_cons_zero, List.getElem?_cons_succ, Yld.val, decide_true, decide_false, if_true, if_false, Bool.false_eq_true, Nat.zero_add, Nat.add_zero, and_true, true_and, or_false, Bool.not_true, Bool.not_false, and_self, wBin_add64, wBin_sub64, wIdx_slice, wIdx_array, wNilc_eq, Int.toNat_natCast, Nat.mul_one, Nat.zero_mul, wSt_agg, wSt_int, wSt_bool, wSt_string, wSt_slice, wSt_ptr, wSt_map, wSt_func, stP_cells, bit_one, bit_zero, bit_one', bit_zero', wBin_shr32, wBin_and1, wBin_rem2, wBin_andNot32, wBin_or32, wBin_and32, wBin_shl32, u32_eq_zero, u32_ne_zero, List.length_cons, List.length_nil, Nat.le_refl, Nat.reduceAdd, Nat.reduceMul, Nat.reduceLeDiff, Int.toNat_zero, Int.toNat_one, hj', wJoin_eq, hb, hg3, gc, putL_u32s hjl, hlen3]
    refine ⟨by omega, hih3 (m3 - 1) _ _ _ (by omega) ⟨j + 1, l3.set j (accA (es.take i) j ||| ndiff e (2 ^ j)), by omega, by simp, by rw [List.length_set]; exact hl3, hx, by rw [getH_same], (hE3.hs (by omega)).more (by omega), by omega⟩⟩
theorem wAidx_get {c : List Value} {i n : Nat} {x : Value} (h : c[i]? = some x) (hi : i < n) (k : VP) : wAidx (.agg ⟨c⟩) (.int .i64 (i : Int)) n 1 false k = k x := by
  show cond (Nat.blt i n) (cutK c (i * 1) none False k) False = k x
  have : Nat.blt i n = true := by simp [Nat.blt_eq]; omega
  rw [this, Nat.mul_one]
  show nthK c i False k = k x
  rw [nthK_eq, h]; rfl

theorem near50 {n v : Nat} (hn : n ≤ 32) (hv : v < n) (A : Option Addr) (es : List Nat) (cap : Nat) (H : Heap) (nx : Nat) (hS : Sl H nx A (u32s es)) (hsm : ∀ e ∈ es, e < 2 ^ n) (hle : es.length ≤ 64) (hg : gcode n es = 0) :
    Ans Tryz.prog 42 [gv n A es.length cap, .int .i64 (v : Int)] H nx fun r H' nx' => r = .int .u32 ((maskOf (adj es v) n : Nat) : Int) ∧ Ext H nx H' nx' := by
  have hsm32 : Small es := fun e he => Nat.lt_of_lt_of_le (hsm e he) (Nat.le_trans (Nat.pow_le_pow_right (by omega) hn) (by decide))
  refine spec42 ?_
  unfold F42
  have hE1 : Ext H nx (hs H nx (some (.cells [.int .i64 n, .slice A es.length cap] 0))) (nx + 1) := (Ext.refl H nx).new _ (Nat.le_refl _) (by omega)
  simp (disch := first | omega | assumption | exact shr_lt (by assumption) | exact ndiff32 (by assumption) | exact below_lt (by omega) | fail) only [List.getD_cons_zero, List.getD_cons_succ, wBin_lss, wBin_leq, wBin_gtr, wBin_geq, wBin_eql, wBin_neq, wIf_bool, wGuard_true, wGuard_false, wPick_true, wPick_false, wUn_not, wFld_eq, wExt_eq, wPart_one, wPart_agg, wLen_slice, wLen_string, wNew_eq, wNm_eq, dBox_agg, dBox_int, dBox_slice, dBox_string, dBox_bool, dBox_map, dBox_ptr, oneCells, wLd_none, wLd_2, wLd_3, wLd_32, ldP_cells, ldP_rom, cellP_one, getH_same, getH_ne, forceV_eq, forceN_eq, hsK_eq, Option.elim_some, List.getElem?_cons_zero, List.getElem?_cons_succ, Yld.val, decide_true, decide_false, if_true, if_false, Bool.false_eq_true, Nat.zero_add, Nat.add_zero, and_true, true_and, or_false, Bool.not_true, Bool.not_false, and_self, wBin_add64, wBin_sub64, wIdx_slice, wIdx_array, wNilc_eq, Int.toNat_natCast, Nat.mul_one, Nat.zero_mul, wSt_agg, wSt_int, wSt_bool, wSt_string, wSt_slice, wSt_ptr, wSt_map, wSt_func, stP_cells, bit_one, bit_zero, bit_one', bit_zero', wBin_shr32, wBin_and1, wBin_rem2, wBin_andNot32, wBin_or32, wBin_and32, wBin_shl32, u32_eq_zero, u32_ne_zero, List.length_cons, List.length_nil, Nat.le_refl, Nat.reduceAdd, Nat.reduceMul, Nat.reduceLeDiff, Int.toNat_zero, Int.toNat_one, cellP_lit2, wJoin_eq]
  refine wCall_rule (check37 n A es cap _ _ (hS.ext hE1) hsm32) ?_
  rintro _ H2 nx2 ⟨rfl, hE2⟩
  have hg2 := hE2.get nx (by omega)
  rw [getH_same] at hg2
  have d1 : decide (gcode n es ≠ 0) = false := by simp [hg]
  have h1 : ¬ (v : Int) < 0 := by omega
  have h2 : ¬ (v : Int) ≥ (n : Int) := by omega
  simp (disch := first | omega | assumption | exact shr_lt (by assumption) | exact ndiff32 (by assumption) | exact below_lt (by omega) | fail) only [List.getD_cons_zero, List.getD_cons_succ, wBin_lss, wBin_leq, wBin_gtr, wBin_geq, wBin_eql, wBin_neq, wIf_bool, wGuard_true, wGuard_false, wPick_true, wPick_false, wUn_not, wFld_eq, wExt_eq, wPart_one, wPart_agg, wLen_slice, wLen_string, wNew_eq, wNm_eq, dBox_agg, dBox_int, dBox_slice, dBox_string, dBox_bool, dBox_map, dBox_ptr, oneCells, wLd_none, wLd_2, wLd_3, wLd_32, ldP_cells, ldP_rom, cellP_one, getH_same, getH_ne, forceV_eq, forceN_eq, hsK_eq, Option.elim_some, List.getElem?_cons_zero, List.getElem?_cons_succ, Yld.val, decide_true, decide_false, if_true, if_false, Bool.false_eq_true, Nat.zero_add, Nat.add_zero, and_true, true_and, or_false, Bool.not_true, Bool.not_false, and_self, wBin_add64, wBin_sub64, wIdx_slice, wIdx_array, wNilc_eq, Int.toNat_natCast, Nat.mul_one, Nat.zero_mul, wSt_agg, wSt_int, wSt_bool, wSt_string, wSt_slice, wSt_ptr, wSt_map, wSt_func, stP_cells, bit_one, bit_zero, bit_one', bit_zero', wBin_shr32, wBin_and1, wBin_rem2, wBin_andNot32, wBin_or32, wBin_and32, wBin_shl32, u32_eq_zero, u32_ne_zero, List.length_cons, List.length_nil, Nat.le_refl, Nat.reduceAdd, Nat.reduceMul, Nat.reduceLeDiff, Int.toNat_zero, Int.toNat_one, d1, h1, h2, hg2, cellP_lit2]
  refine wCall_rule (adj69 hn A es cap _ _ (hS.ext (hE1.trans hE2)) hsm hle) ?_
  rintro _ H3 nx3 ⟨rfl, hE3⟩
  rw [wAidx_get (u32s_get (nears_get es hn hv)) (by omega)]
  simp (disch := first | omega | assumption | exact shr_lt (by assumption) | exact ndiff32 (by assumption) | exact below_lt (by omega) | fail) only [List.getD_cons_zero, List.getD_cons_succ, wBin_lss, wBin_leq, wBin_gtr, wBin_geq, wBin_eql, wBin_neq, wIf_bool, wGuard_true, wGuard_false, wPick_true, wPick_false, wUn_not, wFld_eq, wExt_eq, wPart_one, wPart_agg, wLen_slice, wLen_string, wNew_eq, wNm_eq, dBox_agg, dBox_int, dBox_slice, dBox_string, dBox_bool, dBox_map, dBox_ptr, oneCells, wLd_none, wLd_2, wLd_3, wLd_32, ldP_cells, ldP_rom, cellP_one, getH_same, getH_ne, forceV_eq, forceN_eq, hsK_eq, Option.elim_some, List.getElem?_cons_zero, List.getElem?_cons_succ, Yld.val, decide_true, decide_false, if_true, if_false, Bool.false_eq_true, Nat.zero_add, Nat.add_zero, and_true, true_and, or_false, Bool.not_true, Bool.not_false, and_self, wBin_add64, wBin_sub64, wIdx_slice, wIdx_array, wNilc_eq, Int.toNat_natCast, Nat.mul_one, Nat.zero_mul, wSt_agg, wSt_int, wSt_bool, wSt_string, wSt_slice, wSt_ptr, wSt_map, wSt_func, stP_cells, bit_one, bit_zero, bit_one', bit_zero', wBin_shr32, wBin_and1, wBin_rem2, wBin_andNot32, wBin_or32, wBin_and32, wBin_shl32, u32_eq_zero, u32_ne_zero, List.length_cons, List.length_nil, Nat.le_refl, Nat.reduceAdd, Nat.reduceMul, Nat.reduceLeDiff, Int.toNat_zero, Int.toNat_one]
  exact (hE1.trans hE2).trans hE3

theorem adj33 {n : Nat} (hn : n ≤ 32) (A : Option Addr) (es : List Nat) (cap : Nat) (H : Heap) (nx : Nat) (hS : Sl H nx A (u32s es)) (hsm : ∀ e ∈ es, e < 2 ^ n) (hle : es.length ≤ 64) (hgc : gcode n es = 0) :
    Ans Tryz.prog 71 [gv n A es.length cap] H nx fun r H' nx' => r = .agg ⟨u32s (nears es n)⟩ ∧ Ext H nx H' nx' := by
  refine spec71 ?_
  unfold F71
  simp (disch := first | omega | assumption | exact shr_lt (by assumption) | exact ndiff32 (by assumption) | exact below_lt (by omega) | fail) only [List.getD_cons_zero, List.getD_cons_succ, wBin_lss, wBin_leq, wBin_gtr, wBin_geq, wBin_eql, wBin_neq, wIf_bool, wGuard_true, wGuard_false, wPick_true, wPick_false, wUn_not, wFld_eq, wExt_eq, wPart_one, wPart_agg, wLen_slice, wLen_string, wNew_eq, wNm_eq, dBox_agg, dBox_int, dBox_slice, dBox_string, dBox_bool, dBox_map, dBox_ptr, oneCells, wLd_none, wLd_2, wLd_3, wLd_32, ldP_cells, ldP_rom, cellP_one, getH_same, getH_ne, forceV_eq, forceN_eq, hsK_eq, Option.elim_some, List.getElem?_cons_zero, List.getElem?_cons_succ, Yld.val, decide_true, decide_false, if_true, if_false, Bool.false_eq_true, Nat.zero_add, Nat.add_zero, and_true, true_and, or_false, Bool.not_true, Bool.not_false, and_self, wBin_add64, wBin_sub64, wIdx_slice, wIdx_array, wNilc_eq, Int.toNat_natCast, Nat.mul_one, Nat.zero_mul, wSt_agg, wSt_int, wSt_bool, wSt_string, wSt_slice, wSt_ptr, wSt_map, wSt_func, stP_cells, bit_one, bit_zero, bit_one', bit_zero', wBin_shr32, wBin_and1, wBin_rem2, wBin_andNot32, wBin_or32, wBin_and32, wBin_shl32, u32_eq_zero, u32_ne_zero, List.length_cons, List.length_nil, Nat.le_refl, Nat.reduceAdd, Nat.reduceMul, Nat.reduceLeDiff, Int.toNat_zero, Int.toNat_one, zeros32]
  generalize hK : hs (hs (hs H nx (some (.cells [.int .i64 n, .slice A es.length cap] 0))) (nx + 1) (some (.cells (u32s (List.replicate 32 0)) 0))) (nx + 1 + 1) (some (.cells (u32s (List.replicate 32 0)) 0)) = K
  have kG : getH K nx = some (.cells [.int .i64 n, .slice A es.length cap] 0) := by rw [← hK, getH_ne _ (by omega), getH_ne _ (by omega), getH_same]
  have kR : getH K (nx + 1) = some (.cells (u32s (List.replicate 32 0)) 0) := by rw [← hK, getH_ne _ (by omega), getH_same]
  have kA : getH K (nx + 1 + 1) = some (.cells (u32s (List.replicate 32 0)) 0) := by rw [← hK, getH_same]
  have hEK : Ext H nx K (nx + 3) := by
    rw [← hK]; exact ((((Ext.refl H nx).new _ (by omega) (by omega) : Ext H nx _ (nx + 1)).new _ (by omega) (by omega) : Ext H nx _ (nx + 1 + 1)).new _ (by omega) (by omega))
  refine wLoop_rule (m := n) (fun m L H' nx' => ∃ (i : Nat) (l : List Nat), m + i = n ∧ L = [.int .i64 (i : Int)] ∧ l.length = 32 ∧ (∀ v, v < 32 → l[v]? = some (if v < i then maskOf (adj es v) n else 0)) ∧
    getH H' (nx + 1 + 1) = some (.cells (u32s l) 0) ∧ Ext K (nx + 2) H' nx' ∧ nx + 3 ≤ nx') ?_ ⟨0, List.replicate 32 0, rfl, rfl, by simp, fun v hv => by rw [List.getElem?_replicate, if_pos hv]; simp, kA, Ext.self (by omega), Nat.le_refl _⟩
  rintro m ih L H2 nx2 ⟨i, l, hm, rfl, hl, hval, hg, hE2, hnx2⟩ hih
  have g2 := (hE2.get nx (by omega)).trans kG
  have r2 := (hE2.get (nx + 1) (by omega)).trans kR
  have hEE2 : Ext H nx H2 nx2 := ⟨by omega, fun q hq => (hE2.get q (by omega)).trans (hEK.get q hq)⟩
  simp (disch := first | omega | assumption | exact shr_lt (by assumption) | exact ndiff32 (by assumption) | exact below_lt (by omega) | fail) only [List.getD_cons_zero, List.getD_cons_succ, wBin_lss, wBin_leq, wBin_gtr, wBin_geq, wBin_eql, wBin_neq, wIf_bool, wGuard_true, wGuard_false, wPick_true, wPick_false, wUn_not, wFld_eq, wExt_eq, wPart_one, wPart_agg, wLen_slice, wLen_string, wNew_eq, wNm_eq, dBox_agg, dBox_int, dBox_slice, dBox_string, dBox_bool, dBox_map, dBox_ptr, oneCells, wLd_none, wLd_2, wLd_3, wLd_32, ldP_cells, ldP_rom, cellP_one, getH_same, getH_ne, forceV_eq, forceN_eq, hsK_eq, Option.elim_some, List.getElem?_cons_zero, List.getElem?_cons_succ, Yld.val, decide_true, decide_false, if_true, if_false, Bool.false_eq_true, Nat.zero_add, Nat.add_zero, and_true, true_and, or_false, Bool.not_true, Bool.not_false, and_self, wBin_add64, wBin_sub64, wIdx_slice, wIdx_array, wNilc_eq, Int.toNat_natCast, Nat.mul_one, Nat.zero_mul, wSt_agg, wSt_int, wSt_bool, wSt_string, wSt_slice, wSt_ptr, wSt_map, wSt_func, stP_cells, bit_one, bit_zero, bit_one', bit_zero', wBin_shr32, wBin_and1, wBin_rem2, wBin_andNot32, wBin_or32, wBin_and32, wBin_shl32, u32_eq_zero, u32_ne_zero, List.length_cons, List.length_nil, Nat.le_refl, Nat.reduceAdd, Nat.reduceMul, Nat.reduceLeDiff, Int.toNat_zero, Int.toNat_one, kG]
  by_cases hi : i < n
  case neg =>
    have hi' : ¬ (i : Int) < (n : Int) := by omega
    have hin : i = n := by omega
    subst hin
    have hll : l = nears es i := by
      refine list_ext32 hl (nears_len es i) fun v hv => ?_
      rw [hval v hv]
      simp [nears, hv]
    subst hll
    have e1 : (u32s (nears es i)).length = 32 := by rw [u32s_length]; exact hl
    have e2 : (u32s (List.replicate 32 0)).length = 32 := by rw [u32s_length]; simp
    have e3 := putL_all (c := u32s (List.replicate 32 0)) (vs := u32s (nears es i)) (by rw [e1, e2])
    have e4 := oneCells_u32s (nears es i)
    simp (disch := first | omega | assumption | exact shr_lt (by assumption) | exact ndiff32 (by assumption) | exact below_lt (by omega) | fail) only [List.getD_cons_zero, List.getD_cons_succ, wBin_lss, wBin_leq, wBin_gtr, wBin_geq, wBin_eql, wBin_neq, wIf_bool, wGuard_true, wGuard_false, wPick_true, wPick_false, wUn_not, wFld_eq, wExt_eq, wPart_one, wPart_agg, wLen_slice, wLen_string, wNew_eq, wNm_eq, dBox_agg, dBox_int, dBox_slice, dBox_string, dBox_bool, dBox_map, dBox_ptr, oneCells, wLd_none, wLd_2, wLd_3, wLd_32, ldP_cells, ldP_rom, cellP_one, getH_same, getH_ne, forceV_eq, forceN_eq, hsK_eq, Option.elim_some, List.getElem?_cons_zero, List.getElem?_cons_succ, Yld.val, decide_true, decide_false, if_true, if_false, Bool.false_eq_true, Nat.zero_add, Nat.add_zero, and_true, true_and, or_false, Bool.not_true, Bool.not_false, and_self, wBin_add64, wBin_sub64, wIdx_slice, wIdx_array, wNilc_eq, Int.toNat_natCast, Nat.mul_one, Nat.zero_mul, wSt_agg, wSt_int, wSt_bool, wSt_string, wSt_slice, wSt_ptr, wSt_map, wSt_func, stP_cells, bit_one, bit_zero, bit_one', bit_zero', wBin_shr32, wBin_and1, wBin_rem2, wBin_andNot32, wBin_or32, wBin_and32, wBin_shl32, u32_eq_zero, u32_ne_zero, List.length_cons, List.length_nil, Nat.le_refl, Nat.reduceAdd, Nat.reduceMul, Nat.reduceLeDiff, Int.toNat_zero, Int.toNat_one, hi', hg, cellP_u32s hl, e1, e2, e4, r2, e3]
    exact hEE2.hs (by omega)
  have hi' : (i : Int) < (n : Int) := by omega
  simp (disch := first | omega | assumption | exact shr_lt (by assumption) | exact ndiff32 (by assumption) | exact below_lt (by omega) | fail) only [List.getD_cons_zero, List.getD_cons_succ, wBin_lss, wBin_leq, wBin_gtr, wBin_geq, wBin_eql, wBin_neq, wIf_bool, wGuard_true, wGuard_false, wPick_true, wPick_false, wUn_not, wFld_eq, wExt_eq, wPart_one, wPart_agg, wLen_slice, wLen_string, wNew_eq, wNm_eq, dBox_agg, dBox_int, dBox_slice, dBox_string, dBox_bool, dBox_map, dBox_ptr, oneCells, wLd_none, wLd_2, wLd_3, wLd_32, ldP_cells, ldP_rom, cellP_one, getH_same, getH_ne, forceV_eq, forceN_eq, hsK_eq, Option.elim_some, List.getElem?_cons_zero, List.getElem?_cons_succ, Yld.val, decide_true, decide_false, if_true, if_false, Bool.false_eq_true, Nat.zero_add, Nat.add_zero, and_true, true_and, or_false, Bool.not_true, Bool.not_false, and_self, wBin_add64, wBin_sub64, wIdx_slice, wIdx_array, wNilc_eq, Int.toNat_natCast, Nat.mul_one, Nat.zero_mul, wSt_agg, wSt_int, wSt_bool, wSt_string, wSt_slice, wSt_ptr, wSt_map, wSt_func, stP_cells, bit_one, bit_zero, bit_one', bit_zero', wBin_shr32, wBin_and1, wBin_rem2, wBin_andNot32, wBin_or32, wBin_and32, wBin_shl32, u32_eq_zero, u32_ne_zero, List.length_cons, List.length_nil, Nat.le_refl, Nat.reduceAdd, Nat.reduceMul, Nat.reduceLeDiff, Int.toNat_zero, Int.toNat_one, hi', g2, cellP_lit2]
  refine wCall_rule (near50 hn hi A es cap _ _ (hS.ext hEE2) hsm hle hgc) ?_
  rintro _ H3 nx3 ⟨rfl, hE3⟩
  have hg3 := (hE3.get (nx + 1 + 1) (by omega)).trans hg
  have hnx3 := hE3.le
  have hjl : i < l.length := by omega
  have hlen3 : (u32s l).length = 32 := by rw [u32s_length]; exact hl
  simp (disch := first | omega | assumption | exact shr_lt (by assumption) | exact ndiff32 (by assumption) | exact below_lt (by omega) | fail) only [List.getD_cons_zero, List.getD_cons_succ, wBin_lss, wBin_leq, wBin_gtr, wBin_geq, wBin_eql, wBin_neq, wIf_bool, wGuard_true, wGuard_false, wPick_true, wPick_false, wUn_not, wFld_eq, wExt_eq, wPart_one, wPart_agg, wLen_slice, wLen_string, wNew_eq, wNm_eq, dBox_agg, dBox_int, dBox_slice, dBox_string, dBox_bool, dBox_map, dBox_ptr, oneCells, wLd_none, wLd_2, wLd_3, wLd_32, ldP_cells, ldP_rom, cellP_one, getH_same, getH_ne, forceV_eq, forceN_eq, hsK_eq, Option.elim_some, List.getElem?_cons_zero, List.getElem?_cons_succ, Yld.val, decide_true, decide_false, if_true, if_false, Bool.false_eq_true, Nat.zero_add, Nat.add_zero, and_true, true_and, or_false, Bool.not_true, Bool.not_false, and_self, wBin_add64, wBin_sub64, wIdx_slice, wIdx_array, wNilc_eq, Int.toNat_natCast, Nat.mul_one, Nat.zero_mul, wSt_agg, wSt_int, wSt_bool, wSt_string, wSt_slice, wSt_ptr, wSt_map, wSt_func, stP_cells, bit_one, bit_zero, bit_one', bit_zero', wBin_shr32, wBin_and1, wBin_rem2, wBin_andNot32, wBin_or32, wBin_and32, wBin_shl32, u32_eq_zero, u32_ne_zero, List.length_cons, List.length_nil, Nat.le_refl, Nat.reduceAdd, Nat.reduceMul, Nat.reduceLeDiff, Int.toNat_zero, Int.toNat_one, hg3, putL_u32s hjl, hlen3]
  refine ⟨by omega, hih (m - 1) _ _ _ (by omega) ⟨i + 1, l.set i (maskOf (adj es i) n), by omega, by simp, by rw [List.length_set]; exact hl, fun v hv => ?_, by rw [getH_same], ((hE2.trans (hE3.less (by omega))).hs (by omega)), by omega⟩⟩
  rw [List.getElem?_set]
  by_cases hvj : i = v
  · subst hvj; rw [if_pos rfl, if_pos (by omega), if_pos (by omega)]
  · rw [if_neg hvj, hval v hv]
    by_cases hlt : v < i
    · rw [if_pos hlt, if_pos (by omega)]
    · rw [if_neg hlt, if_neg (by omega)]
end Go.Proofs.YtdecggbglnbhlaaGreatDoor
