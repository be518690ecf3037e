/-
  Contracts: the bags in the form of the reference; plain facts on lists of bags.
-/
import Derived.Test.YtaieijjfabbfeaaS4
set_option linter.unusedSimpArgs false
set_option linter.unusedVariables false
set_option linter.unusedSectionVars false
namespace Go.Proofs.Ytaieijjfabbfeaa
open Go.Clo

theorem bagsC_take {bs : List Bag} {i : Nat} {b : Bag} (h : bs[i]? = some b) : bagsC (bs.take (i + 1)) = bagsC (bs.take i) ++ bagC b := by
  have e : bs.take (i + 1) = bs.take i ++ [b] := by
    rw [List.take_add_one, h]; rfl
  rw [e]; simp [bagsC]
theorem take_all {α : Type} {l : List α} {i : Nat} (h : ¬ i < l.length) : l.take i = l := List.take_of_length_le (by omega)
theorem of12 (A : Option Addr) (bs : List Bag) (cap : Nat) (H : Heap) (nx : Nat) (hS : Sl H nx A (bagsC bs)) (hl : bs.length ≤ 40) :
    Ans Try.prog 12 [.slice A bs.length cap] H nx fun r H' nx' => Acc nx H' nx' 3 r bs.length (bagsC bs) ∧ Ext H nx H' nx' := by
  refine spec12 ?_
  unfold F12
  simp (disch := first | omega | assumption | exact shr_lt (by assumption) | exact ndiff32 (by assumption) | exact below_lt (by omega) | fail) only [List.getD_cons_zero, List.getD_cons_succ, wBin_lss, wBin_leq, wBin_gtr, wBin_geq, wBin_eql, wBin_neq, wIf_bool, wGuard_true, wGuard_false, wPick_true, wPick_false, wUn_not, wFld_eq, wExt_eq, wPart_one, wPart_agg, wLen_slice, wLen_string, wNew_eq, wNm_eq, dBox_agg, dBox_int, dBox_slice, dBox_string, dBox_bool, dBox_map, dBox_ptr, oneCells, wLd_none, wLd_2, wLd_3, wLd_32, ldP_cells, ldP_rom, cellP_one, getH_same, getH_ne, forceV_eq, forceN_eq, hsK_eq, Option.elim_some, List.getElem?_cons_zero, List.getElem?_cons_succ, Yld.val, decide_true, decide_false, if_true, if_false, Bool.false_eq_true, Nat.zero_add, Nat.add_zero, and_true, true_and, or_false, Bool.not_true, Bool.not_false, and_self, wBin_add64, wBin_sub64, wIdx_slice, wIdx_array, wNilc_eq, Int.toNat_natCast, Nat.mul_one, Nat.zero_mul, wSt_agg, wSt_int, wSt_bool, wSt_string, wSt_slice, wSt_ptr, wSt_map, wSt_func, stP_cells, bit_one, bit_zero, bit_one', bit_zero', wBin_shr32, wBin_and1, wBin_rem2, wBin_andNot32, wBin_or32, wBin_and32, wBin_shl32, u32_eq_zero, u32_ne_zero, List.length_cons, List.length_nil, Nat.le_refl, Nat.reduceAdd, Nat.reduceMul, Nat.reduceLeDiff, Int.toNat_zero, Int.toNat_one]
  refine wLoop_rule (m := bs.length) (fun m L H' nx' => ∃ (i : Nat) (v : Value), m + i = bs.length ∧ L = [v, .int .i64 (i : Int)] ∧ Acc nx H' nx' 3 v i (bagsC (bs.take i)) ∧ Ext H nx H' nx') ?_ ⟨0, _, rfl, rfl, Acc.nil _ _ _ _, Ext.refl _ _⟩
  rintro m ih L H1 nx1 ⟨i, v, hm, rfl, hA, hE⟩ hih
  simp (disch := first | omega | assumption | exact shr_lt (by assumption) | exact ndiff32 (by assumption) | exact below_lt (by omega) | fail) only [List.getD_cons_zero, List.getD_cons_succ, wBin_lss, wBin_leq, wBin_gtr, wBin_geq, wBin_eql, wBin_neq, wIf_bool, wGuard_true, wGuard_false, wPick_true, wPick_false, wUn_not, wFld_eq, wExt_eq, wPart_one, wPart_agg, wLen_slice, wLen_string, wNew_eq, wNm_eq, dBox_agg, dBox_int, dBox_slice, dBox_string, dBox_bool, dBox_map, dBox_ptr, oneCells, wLd_none, wLd_2, wLd_3, wLd_32, ldP_cells, ldP_rom, cellP_one, getH_same, getH_ne, forceV_eq, forceN_eq, hsK_eq, Option.elim_some, List.getElem?_cons_zero, List.getElem?_cons_succ, Yld.val, decide_true, decide_false, if_true, if_false, Bool.false_eq_true, Nat.zero_add, Nat.add_zero, and_true, true_and, or_false, Bool.not_true, Bool.not_false, and_self, wBin_add64, wBin_sub64, wIdx_slice, wIdx_array, wNilc_eq, Int.toNat_natCast, Nat.mul_one, Nat.zero_mul, wSt_agg, wSt_int, wSt_bool, wSt_string, wSt_slice, wSt_ptr, wSt_map, wSt_func, stP_cells, bit_one, bit_zero, bit_one', bit_zero', wBin_shr32, wBin_and1, wBin_rem2, wBin_andNot32, wBin_or32, wBin_and32, wBin_shl32, u32_eq_zero, u32_ne_zero, List.length_cons, List.length_nil, Nat.le_refl, Nat.reduceAdd, Nat.reduceMul, Nat.reduceLeDiff, Int.toNat_zero, Int.toNat_one]
  by_cases hi : i < bs.length
  · have hi' : (i : Int) < (bs.length : Int) := by omega
    obtain ⟨b, hb⟩ : ∃ b, bs[i]? = some b := ⟨_, List.getElem?_eq_getElem hi⟩
    obtain ⟨B, o, row, rfl, hB, hrow, hget⟩ := (hS.ext hE).open (i := i * 3) (by rw [bagsC_length]; omega)
    have hg := fun j v hv => hget _ v (bagsC_get hb j v hv)
    have g0 : row[o + i * 3]? = some (.int .i64 b.var) := hg 0 _ rfl
    have g1 : row[o + i * 3 + 1]? = some (.int .u32 (b.key : Int)) := hg 1 _ rfl
    have g2 : row[o + i * 3 + 2]? = some (.int .i64 b.par) := hg 2 _ rfl
    have hle := hE.le
    simp (disch := first | omega | assumption | exact shr_lt (by assumption) | exact ndiff32 (by assumption) | exact below_lt (by omega) | fail) only [List.getD_cons_zero, List.getD_cons_succ, wBin_lss, wBin_leq, wBin_gtr, wBin_geq, wBin_eql, wBin_neq, wIf_bool, wGuard_true, wGuard_false, wPick_true, wPick_false, wUn_not, wFld_eq, wExt_eq, wPart_one, wPart_agg, wLen_slice, wLen_string, wNew_eq, wNm_eq, dBox_agg, dBox_int, dBox_slice, dBox_string, dBox_bool, dBox_map, dBox_ptr, oneCells, wLd_none, wLd_2, wLd_3, wLd_32, ldP_cells, ldP_rom, cellP_one, getH_same, getH_ne, forceV_eq, forceN_eq, hsK_eq, Option.elim_some, List.getElem?_cons_zero, List.getElem?_cons_succ, Yld.val, decide_true, decide_false, if_true, if_false, Bool.false_eq_true, Nat.zero_add, Nat.add_zero, and_true, true_and, or_false, Bool.not_true, Bool.not_false, and_self, wBin_add64, wBin_sub64, wIdx_slice, wIdx_array, wNilc_eq, Int.toNat_natCast, Nat.mul_one, Nat.zero_mul, wSt_agg, wSt_int, wSt_bool, wSt_string, wSt_slice, wSt_ptr, wSt_map, wSt_func, stP_cells, bit_one, bit_zero, bit_one', bit_zero', wBin_shr32, wBin_and1, wBin_rem2, wBin_andNot32, wBin_or32, wBin_and32, wBin_shl32, u32_eq_zero, u32_ne_zero, List.length_cons, List.length_nil, Nat.le_refl, Nat.reduceAdd, Nat.reduceMul, Nat.reduceLeDiff, Int.toNat_zero, Int.toNat_one, hi', ldP_row hrow, cellP_3 g0 g1 g2, putL_lit3, cellP_lit3]
    have hbs : ∀ (x y z : Value) k, oneCells [x, y, z] = true → dBsl 1 3 [.int .i64 0, .int .u32 0, .int .i64 0] [(0, .agg ⟨[x, y, z]⟩)] k = k [x, y, z] := by
      intro x y z k h
      have e : dBsl 1 3 [.int .i64 0, .int .u32 0, .int .i64 0] [(0, .agg ⟨[x, y, z]⟩)] k = cond (oneCells [x, y, z]) (spine [x, y, z] k) False := rfl
      rw [e, h]; rfl
    rw [hbs _ _ _ _ rfl]
    have hE2 : Ext H1 nx1 (hs (hs (hs H1 nx1 (some (.cells [.int .i64 0, .int .u32 0, .int .i64 0] 0))) nx1 (some (.cells [.int .i64 b.var, .int .u32 (b.key : Int), .int .i64 b.par] 0))) (nx1 + 1) (some (.cells [.int .i64 b.var, .int .u32 (b.key : Int), .int .i64 b.par] 0))) (nx1 + 1 + 1) :=
      (((Ext.self (by omega)).hs (by omega)).hs (by omega)).hs (by omega)
    refine wApp_acc (H0 := H) (l := [.int .i64 b.var, .int .u32 (b.key : Int), .int .i64 b.par]) (m := 1) (by omega) (hA.ext hE2) (src_new (getH_same _ _ _) rfl (by omega)) (by omega) rfl (by omega) (by omega) (hE.trans hE2) (by omega) ?_
    intro v' H' hA' hE' _
    refine hih (m - 1) _ _ _ (by omega) ⟨i + 1, v', by omega, by simp, ?_, hE'⟩
    rw [bagsC_take hb]; exact hA'
  · have hi' : ¬ (i : Int) < (bs.length : Int) := by omega
    simp (disch := first | omega | assumption | exact shr_lt (by assumption) | exact ndiff32 (by assumption) | exact below_lt (by omega) | fail) only [List.getD_cons_zero, List.getD_cons_succ, wBin_lss, wBin_leq, wBin_gtr, wBin_geq, wBin_eql, wBin_neq, wIf_bool, wGuard_true, wGuard_false, wPick_true, wPick_false, wUn_not, wFld_eq, wExt_eq, wPart_one, wPart_agg, wLen_slice, wLen_string, wNew_eq, wNm_eq, dBox_agg, dBox_int, dBox_slice, dBox_string, dBox_bool, dBox_map, dBox_ptr, oneCells, wLd_none, wLd_2, wLd_3, wLd_32, ldP_cells, ldP_rom, cellP_one, getH_same, getH_ne, forceV_eq, forceN_eq, hsK_eq, Option.elim_some, List.getElem?_cons_zero, List.getElem?_cons_succ, Yld.val, decide_true, decide_false, if_true, if_false, Bool.false_eq_true, Nat.zero_add, Nat.add_zero, and_true, true_and, or_false, Bool.not_true, Bool.not_false, and_self, wBin_add64, wBin_sub64, wIdx_slice, wIdx_array, wNilc_eq, Int.toNat_natCast, Nat.mul_one, Nat.zero_mul, wSt_agg, wSt_int, wSt_bool, wSt_string, wSt_slice, wSt_ptr, wSt_map, wSt_func, stP_cells, bit_one, bit_zero, bit_one', bit_zero', wBin_shr32, wBin_and1, wBin_rem2, wBin_andNot32, wBin_or32, wBin_and32, wBin_shl32, u32_eq_zero, u32_ne_zero, List.length_cons, List.length_nil, Nat.le_refl, Nat.reduceAdd, Nat.reduceMul, Nat.reduceLeDiff, Int.toNat_zero, Int.toNat_one, hi']
    have : i = bs.length := by omega
    subst this
    rw [take_all (by omega)] at hA
    exact ⟨hA, hE⟩

/-! The plain answer of Check. -/
def badAt (n free : Nat) : List Bag → Nat → Int
  | [], _ => 0
  | b :: bs, v => if bcode n free v b ≠ 0 then bcode n free v b else badAt n free bs (v + 1)
theorem badAt_drop {n free : Nat} : ∀ {bs : List Bag} {i v : Nat}, (∀ j b, j < i → bs[j]? = some b → bcode n free (v + j) b = 0) → badAt n free bs v = badAt n free (bs.drop i) (v + i)
  | bs, 0, v, _ => rfl
  | [], i + 1, v, _ => rfl
  | b :: bs, i + 1, v, h => by
    have h0 := h 0 b (by omega) rfl
    simp only [badAt, List.drop_succ_cons]
    rw [if_neg (by simpa using h0), badAt_drop (i := i) fun j b' hj hb => by have := h (j + 1) b' (by omega) (by simpa using hb); rw [← this]; congr 1; omega]
    congr 1; omega
theorem badAt_here {n free : Nat} {bs : List Bag} {i : Nat} {b : Bag} (h : ∀ j b, j < i → bs[j]? = some b → bcode n free j b = 0) (hb : bs[i]? = some b) (hc : bcode n free i b ≠ 0) : badAt n free bs 0 = bcode n free i b := by
  rw [badAt_drop (i := i) (fun j b' hj hb' => by rw [Nat.zero_add]; exact h j b' hj hb'), Nat.zero_add]
  have e : bs.drop i = b :: bs.drop (i + 1) := by
    have hi := lt_len hb
    rw [List.drop_eq_getElem_cons hi]
    rw [List.getElem?_eq_getElem hi] at hb
    cases hb; rfl
  rw [e]; simp [badAt, hc]
theorem badAt_none {n free : Nat} {bs : List Bag} (h : ∀ j b, bs[j]? = some b → bcode n free j b = 0) : badAt n free bs 0 = 0 := by
  rw [badAt_drop (i := bs.length) (fun j b' hj hb' => by rw [Nat.zero_add]; exact h j b' hb')]
  simp [badAt]
theorem badAt_zero {n free : Nat} {bs : List Bag} (h : badAt n free bs 0 = 0) : ∀ j b, bs[j]? = some b → bcode n free j b = 0 := by
  have key : ∀ (bs : List Bag) (v : Nat), badAt n free bs v = 0 → ∀ j b, bs[j]? = some b → bcode n free (v + j) b = 0 := by
    intro bs
    induction bs with
    | nil => intro v _ j b hb; simp at hb
    | cons b0 bs ih =>
      intro v hv j b hb
      simp only [badAt] at hv
      split at hv
      · rename_i hc; exact absurd hv hc
      · rename_i hc
        cases j with
        | zero => simp at hb; subst hb; simpa using hc
        | succ j =>
          have := ih (v + 1) hv j b (by simpa using hb)
          rw [← this]; congr 1; omega
  intro j b hb
  have := key bs 0 h j b hb
  rwa [Nat.zero_add] at this

/-- One step up; k steps up. -/
def stepUp (bs : List Bag) (u : Int) : Int := if u < 0 then u else (bs[u.toNat]?.map (·.par)).getD (-1)
def up (bs : List Bag) : Nat → Int → Int
  | 0, u => u
  | k + 1, u => stepUp bs (up bs k u)
theorem up_neg {bs : List Bag} {u : Int} {k : Nat} (h : up bs k u < 0) : ∀ m, k ≤ m → up bs m u < 0 := by
  intro m hm
  induction m with
  | zero => have : k = 0 := by omega
            subst this; exact h
  | succ m ih =>
    by_cases e : k = m + 1
    · subst e; exact h
    · have := ih (by omega)
      simp only [up, stepUp, this, if_true]
theorem up_step {bs : List Bag} {u : Int} {k p : Nat} {b : Bag} (h : up bs k u = p) (hb : bs[p]? = some b) : up bs (k + 1) u = b.par := by
  simp only [up, stepUp, h]
  rw [if_neg (by omega)]; simp [hb]
theorem up_add (bs : List Bag) (u : Int) (j : Nat) : ∀ k, up bs (j + k) u = up bs k (up bs j u)
  | 0 => rfl
  | k + 1 => by rw [← Nat.add_assoc]; simp only [up]; rw [up_add bs u j k]
/-- Of n + 1 numbers less than n two are alike. -/
theorem pigeon : ∀ (n : Nat) (f : Nat → Nat), (∀ i, i ≤ n → f i < n) → ∃ i j, i < j ∧ j ≤ n ∧ f i = f j
  | 0, f, h => by have := h 0 (by omega); omega
  | n + 1, f, h => by
    by_cases hex : ∃ i, i ≤ n ∧ f i = f (n + 1)
    · obtain ⟨i, hi, he⟩ := hex
      exact ⟨i, n + 1, by omega, by omega, he⟩
    · have hno : ∀ i, i ≤ n → f i ≠ f (n + 1) := fun i hi he => hex ⟨i, hi, he⟩
      obtain ⟨i, j, h1, h2, h3⟩ := pigeon n (fun i => if f i = n then f (n + 1) else f i) (fun i hi => by
        have a := h i (by omega)
        have b := h (n + 1) (by omega)
        have c := hno i hi
        split <;> omega)
      refine ⟨i, j, h1, by omega, ?_⟩
      have a := hno i (by omega)
      have b := hno j h2
      split at h3 <;> split at h3 <;> omega
theorem int_lt_or_ge (a b : Int) : a < b ∨ b ≤ a := by omega
/-- A way up of n + 1 bags never ends. -/
theorem up_more {bs : List Bag} {n : Nat} (hn : bs.length = n) (hp : ∀ b ∈ bs, b.par < n) {v : Nat} (hv : v < n) (h : 0 ≤ up bs n v) : 0 ≤ up bs (n + 1) v := by
  rcases int_lt_or_ge (up bs (n + 1) v) 0 with hneg | hge
  · exfalso
    have pos : ∀ i, i ≤ n → 0 ≤ up bs i v := fun i hi => by
      rcases int_lt_or_ge (up bs i v) 0 with g | g
      · have := up_neg g n hi; omega
      · exact g
    have lt : ∀ i, i ≤ n → up bs i v < n := fun i hi => by
      cases i with
      | zero => simp only [up]; omega
      | succ i =>
        have h1 := pos i (by omega)
        have h2 := pos (i + 1) hi
        simp only [up, stepUp] at h2 ⊢
        rw [if_neg (by omega)] at h2 ⊢
        cases hb : bs[(up bs i v).toNat]? with
        | none => rw [hb] at h2; simp at h2
        | some b => simp; exact hp b (List.mem_of_getElem? hb)
    obtain ⟨i, j, h1, h2, h3⟩ := pigeon n (fun i => (up bs i v).toNat) (fun i hi => by have := pos i hi; have := lt i hi; omega)
    have he : up bs i v = up bs j v := by
      have a := pos i (by omega)
      have b := pos j h2
      omega
    -- the end comes as soon behind i as behind j
    have e1 : up bs (j + (n + 1 - j)) v = up bs (i + (n + 1 - j)) v := by rw [up_add, up_add, he]
    rw [show j + (n + 1 - j) = n + 1 by omega] at e1
    have := pos (i + (n + 1 - j)) (by omega)
    omega
  · exact hge
end Go.Proofs.Ytaieijjfabbfeaa
