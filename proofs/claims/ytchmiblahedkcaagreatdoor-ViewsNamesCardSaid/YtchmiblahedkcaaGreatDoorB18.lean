/-
  Contracts: rows of names: Without, Put.
-/
import Derived.Test.YtchmiblahedkcaaGreatDoorB13
import Derived.Test.YtchmiblahedkcaaGreatDoorB17
set_option linter.all false
namespace Go.Proofs.YtchmiblahedkcaaGreatDoor
open Go.Clo

theorem wBin_strlt (a b : ByteArray) (k : VP) : wBin .lss (.string a) (.string b) k = k (.bool (Op.bytesLess a.data.toList b.data.toList)) := by
  rw [wBin_eq, ← ByteArray.toList_eq, ← ByteArray.toList_eq]
  rfl
theorem wSl_end {H : Heap} {b n : Nat} {c : List Value} (hg : getH H b = some (.cells c 1)) (hc : c.length = n) (hn : 0 < n) (k : VP) : wSl (.slice (some ⟨b, 0, none⟩) n n) 1 (some (.int .i64 (n : Int))) none none H k = k (.slice (some ⟨1, 0, some 0⟩) 0 0) := by
  have hx : looseA (.cells c 1) 0 n 1 = some true := by
    show some (Nat.beq (0 + n * 1) c.length) = some true
    rw [hc, Nat.mul_one, Nat.zero_add, beqtrue]
  have e1 : sliceA (some ⟨b, 0, none⟩) n n 1 (some (.int .i64 (n : Int))) none none true = none := by
    simp only [sliceA, hiA, loA, boundA_nat (Nat.le_refl n)]
    simp only [boundA, beqtrue, beqfalse (show n ≠ 0 by omega)]
    simp
  have e2 : sliceA (some ⟨b, 0, none⟩) n n 1 (some (.int .i64 (n : Int))) none none false = some (.slice (some ⟨b, 0, none⟩) 0 0) := by
    simp only [sliceA, hiA, loA, boundA_nat (Nat.le_refl n)]
    simp only [boundA, beqtrue, bltrue (Nat.le_refl n)]
    simp
  unfold wSl
  dsimp only
  rw [getB_eq, hg]
  simp only [Option.elim_some, slB]
  rw [hx]
  dsimp only
  rw [e1]
  dsimp only
  rw [e2]
  rfl
theorem wApp_z {H : Heap} {nx size bytes b n sl : Nat} {c : List Value} {x : Value} {k : EP} (hg : getH H b = some (.cells c sl)) (hl : c.length = n * size) (hx : Go.Clo.Src H size x 0 [])
    (hb1 : (2 * n + 1000) * bytes ≤ 281474976710656) (hb2 : n ≤ 1000000000) : wApp (.slice (some ⟨b, 0, none⟩) n n) x size bytes H nx k = k (.slice (some ⟨b, 0, none⟩) n n) (hs H b (some (.cells c sl))) nx := by
  unfold wApp appK
  rw [hx.len]
  dsimp only
  rw [forceN_eq, bltrue (show (2 * (n + 0) + 1000) * bytes ≤ 281474976710656 from hb1), bltrue (show n + 0 ≤ 1000000000 from hb2)]
  simp only [Bool.and_self, cond_true]
  rw [hx.first]
  simp only [oneCells, cond_true, Nat.add_zero, bltrue (Nat.le_refl n), appIn, forceN_eq]
  rw [putCK_eq, hg]
  simp only [stP_cells, List.length_nil, Nat.add_zero, Nat.zero_add, putL, List.append_nil, List.take_append_drop, hl, Nat.le_refl, true_and]
theorem src_u {H : Heap} {s : Nat} : Go.Clo.Src H 1 (.slice (some ⟨1, 0, some s⟩) 0 0) 0 [] := ⟨rfl, fun k => rfl, rfl⟩
theorem strs_take (zs : List ByteArray) (i : Nat) : strs (zs.take i) = (strs zs).take i := by simp [strs]
theorem strs_drop (zs : List ByteArray) (i : Nat) : strs (zs.drop i) = (strs zs).drop i := by simp [strs]
theorem strs_app (a b : List ByteArray) : strs (a ++ b) = strs a ++ strs b := by simp [strs]
/-- How a row of names lies. -/
theorem Zs.cases {H : Heap} {nx : Nat} {v : Value} {zs : List ByteArray} (h : Zs H nx v zs) :
    (zs = [] ∧ v = .slice none 0 0) ∨ ∃ b sl, b < nx ∧ v = .slice (some ⟨b, 0, none⟩) zs.length zs.length ∧ getH H b = some (.cells (strs zs) sl) ∧ (sl = 0 ∨ sl = 1) ∧ (sl = 0 → zs = []) := by
  have hnil : strs zs = [] → zs = [] := fun h => by
    have := congrArg List.length h
    rw [strs_length] at this
    exact List.eq_nil_of_length_eq_zero this
  rcases h with h | ⟨h0, b, h1, h2, h3, h4⟩
  · rcases h.2 with ⟨h0, rfl⟩ | ⟨b, h1, h2, rfl, h4⟩
    · exact .inl ⟨by rw [strs_length] at h0; exact List.eq_nil_of_length_eq_zero h0, rfl⟩
    · rw [strs_length]
      exact .inr ⟨b, 1, h2, rfl, h4, .inr rfl, fun h => by cases h⟩
  · have h5 := hnil h0
    refine .inr ⟨b, 0, h2, ?_, by rw [h0]; exact h4, .inl rfl, fun _ => h5⟩
    rw [h3, h5]; rfl
theorem zs_hi {H : Heap} {nx : Nat} {v : Value} {zs : List ByteArray} (h : Zs H nx v zs) {i : Nat} (hi : i ≤ zs.length) :
    ∃ u, (∀ H' nx', Ext H nx H' nx' → ∀ k, wSl v 1 none (some (.int .i64 (i : Int))) none H' k = k u) ∧ ∀ H' nx', Ext H nx H' nx' → Go.Clo.Src H' 1 u i (strs (zs.take i)) := by
  rcases h.cases with ⟨rfl, rfl⟩ | ⟨b, sl, hb, rfl, hg, hsl, _⟩
  · have : i = 0 := by simpa using hi
    subst this
    refine ⟨.slice none 0 0, fun H' nx' _ k => ?_, fun H' nx' _ => src_none (nx := nx') (.inl rfl)⟩
    have e : sliceA none 0 0 1 none (some (.int .i64 ((0 : Nat) : Int))) none false = some (.slice none 0 0) := rfl
    unfold wSl
    dsimp only
    rw [e]
    exact force1_eq _ _
  · refine ⟨.slice (some ⟨b, 0, none⟩) i zs.length, fun H' nx' e k => wSl_hi (by rw [e.get b hb]; exact hg) hi hsl k, fun H' nx' e => ?_⟩
    have hg' : getH H' b = some (.cells (strs zs) sl) := by rw [e.get b hb]; exact hg
    have hb' : b < nx' := Nat.lt_of_lt_of_le hb e.le
    refine src_any (nx := nx') (fun j x hx => ⟨b, 0, strs zs, rfl, hb', by simp [rowOf, hg', Blk.row], ?_⟩) (.inr ⟨b, 0, strs zs, rfl, hb', by simp [rowOf, hg', Blk.row]⟩) (by rw [strs_length, List.length_take]; omega) (by omega)
    rw [strs_take, List.getElem?_take] at hx
    split at hx
    · rw [Nat.zero_add]; exact hx
    · cases hx
theorem zs_lo {H : Heap} {nx : Nat} {v : Value} {zs : List ByteArray} (h : Zs H nx v zs) {i : Nat} (hi : i ≤ zs.length) :
    ∃ u, (∀ H' nx', Ext H nx H' nx' → ∀ k, wSl v 1 (some (.int .i64 (i : Int))) none none H' k = k u) ∧ ∀ H' nx', Ext H nx H' nx' → Go.Clo.Src H' 1 u (zs.length - i) (strs (zs.drop i)) := by
  rcases h.cases with ⟨rfl, rfl⟩ | ⟨b, sl, hb, rfl, hg, hsl, hs0⟩
  · have : i = 0 := by simpa using hi
    subst this
    refine ⟨.slice none 0 0, fun H' nx' _ k => ?_, fun H' nx' _ => src_none (nx := nx') (.inl rfl)⟩
    have e : sliceA none 0 0 1 (some (.int .i64 ((0 : Nat) : Int))) none none false = some (.slice none 0 0) := rfl
    unfold wSl
    dsimp only
    rw [e]
    exact force1_eq _ _
  · by_cases hlt : i < zs.length
    · refine ⟨.slice (some ⟨b, i, none⟩) (zs.length - i) (zs.length - i), fun H' nx' e k => wSl_lo (by rw [e.get b hb]; exact hg) hlt hsl k, fun H' nx' e => ?_⟩
      have hg' : getH H' b = some (.cells (strs zs) sl) := by rw [e.get b hb]; exact hg
      have hb' : b < nx' := Nat.lt_of_lt_of_le hb e.le
      refine src_any (nx := nx') (fun j x hx => ⟨b, i, strs zs, rfl, hb', by simp [rowOf, hg', Blk.row], ?_⟩) (.inr ⟨b, i, strs zs, rfl, hb', by simp [rowOf, hg', Blk.row]⟩) (by rw [strs_length, List.length_drop]; omega) (by omega)
      rw [strs_drop, List.getElem?_drop] at hx
      exact hx
    · have : i = zs.length := by omega
      subst this
      rw [List.drop_length, Nat.sub_self]
      by_cases h0 : zs.length = 0
      · have hz : zs = [] := List.eq_nil_of_length_eq_zero h0
        subst hz
        refine ⟨.slice (some ⟨b, 0, none⟩) 0 0, fun H' nx' e k => ?_, fun H' nx' e => ?_⟩
        · have hg' : getH H' b = some (.cells (strs []) sl) := by rw [e.get b hb]; exact hg
          have e1 : ∀ x, sliceA (some ⟨b, 0, none⟩) 0 0 1 (some (.int .i64 ((0 : Nat) : Int))) none none x = some (.slice (some ⟨b, 0, none⟩) 0 0) := fun x => by cases x <;> rfl
          obtain ⟨x, hx⟩ := looseA_some (c := strs []) (n := 0) hsl
          unfold wSl
          dsimp only
          rw [getB_eq, hg']
          simp only [Option.elim_some, slB, List.length_nil]
          rw [hx]
          dsimp only
          rw [e1]
          exact force1_eq _ _
        · have hg' : getH H' b = some (.cells (strs []) sl) := by rw [e.get b hb]; exact hg
          exact src_none (nx := nx') (.inr ⟨b, 0, strs [], rfl, Nat.lt_of_lt_of_le hb e.le, by simp [rowOf, hg', Blk.row]⟩)
      · have hsl1 : sl = 1 := by
          rcases hsl with h | h
          · exact absurd (congrArg List.length (hs0 h)) h0
          · exact h
        subst hsl1
        exact ⟨_, fun H' nx' e k => wSl_end (by rw [e.get b hb]; exact hg) (strs_length zs) (by omega) k, fun H' nx' e => src_u⟩

set_option maxHeartbeats 1000000 in
theorem without9 (A : Option Addr) (zs : List ByteArray) (c : Nat) (s : ByteArray) (H : Heap) (nx : Nat) (hA : Sl H nx A (strs zs)) (hl : zs.length ≤ 1000) :
    Ans Tryz.prog 9 [.slice A zs.length c, .string s] H nx fun r H' nx' => Zs H' nx' r (zs.filter fun z => !decide (z = s)) ∧ Ext H nx H' nx' := by
  refine spec9 ?_
  unfold F9
  simp only [W1]
  refine wLoop_rule (fun m L H' nx' => ∃ i out, m + i = zs.length ∧ L = [out, .int .i64 ((i : Nat) : Int)] ∧ AccL nx H' nx' out (strs ((zs.take i).filter fun z => !decide (z = s))) ∧ Ext H nx H' nx') ?_ (m := zs.length) ⟨0, _, by omega, rfl, .inl (Acc.nil _ _ _ _), Ext.refl _ _⟩
  rintro m ih L H1 n1 ⟨i, out, hm, rfl, hacc, hE⟩ hih
  have hA1 := hA.ext hE
  simp (disch := first|omega|assumption) only [W0, oneCells, Yld.val, Nat.reduceAdd, Nat.reduceMul, Nat.reduceLeDiff]
  by_cases hi : i < zs.length
  · have hi' : (i : Int) < (zs.length : Int) := by omega
    obtain ⟨b, o, row, rfl, hb, hrow, hget⟩ := hA1.open (i := i) (by rw [strs_length]; exact hi)
    have hx : zs[i]? = some zs[i] := List.getElem?_eq_getElem hi
    have htk : zs.take (i + 1) = zs.take i ++ [zs[i]] := by rw [List.take_add_one, hx]; rfl
    generalize zs[i] = x at hx htk
    by_cases hxs : x = s
    · have d : decide (x = s) = true := by simp [hxs]
      simp (disch := first|omega|assumption) only [W0, oneCells, Yld.val, Nat.reduceAdd, Nat.reduceMul, Nat.reduceLeDiff, hi', ldP_row hrow, hget _ _ (strs_get hx), wBin_strne, d, wJoin_eq]
      exact hih (m - 1) _ _ _ (by omega) ⟨i + 1, out, by omega, by simp, by rw [htk, List.filter_append]; simpa [d] using hacc, hE⟩
    · have d : decide (x = s) = false := by simp [hxs]
      simp (disch := first|omega|assumption) only [W0, oneCells, Yld.val, Nat.reduceAdd, Nat.reduceMul, Nat.reduceLeDiff, hi', ldP_row hrow, hget _ _ (strs_get hx), wBin_strne, d, wJoin_eq]
      refine wApp_accL (lo := nx) (H0 := H) (y := .string x) (hacc.ext ((Ext.refl _ _).new _ (Nat.le_refl _) (by omega))) ?_ rfl (by omega) ?_ ?_ ?_ ?_
      · exact src_new (getH_same _ _ _) rfl (by omega)
      · rw [strs_length]
        have := List.length_filter_le (fun z => !decide (z = s)) (zs.take i)
        rw [List.length_take] at this
        omega
      · exact hE.new _ hE.le (by omega)
      · have := hE.le; omega
      · intro v' H' h1 h2 _
        try simp (disch := first|omega|assumption) only [W0, oneCells, Yld.val, Nat.reduceAdd, Nat.reduceMul, Nat.reduceLeDiff]
        refine hih (m - 1) _ _ _ (by omega) ⟨i + 1, v', by omega, by simp, ?_, h2⟩
        rw [htk, List.filter_append, strs_app]
        simpa [d, strs] using h1
  · have hi' : ¬ (i : Int) < (zs.length : Int) := by omega
    simp (disch := first|omega|assumption) only [W0, oneCells, Yld.val, Nat.reduceAdd, Nat.reduceMul, Nat.reduceLeDiff, hi']
    rw [List.take_of_length_le (by omega)] at hacc
    refine ⟨?_, hE⟩
    rcases hacc with h | ⟨h0, b, h1, h2⟩
    · refine .inl ⟨h.1, ?_⟩
      rcases h.2 with h | ⟨b, h1, h2⟩
      · exact .inl h
      · exact .inr ⟨b, Nat.zero_le _, h2⟩
    · exact .inr ⟨h0, b, Nat.zero_le _, h2⟩

theorem ins_cut (s : ByteArray) : ∀ (zs : List ByteArray) (i : Nat), (∀ j z, j < i → zs[j]? = some z → Op.bytesLess z.data.toList s.data.toList = true) → i ≤ zs.length → (∀ z, zs[i]? = some z → Op.bytesLess z.data.toList s.data.toList = false) →
    insB s zs = zs.take i ++ [s] ++ zs.drop i
  | [], i, _, h2, _ => by
    have : i = 0 := by simpa using h2
    subst this; rfl
  | z :: zs, 0, _, _, h3 => by
    have := h3 z rfl
    simp [insB, this]
  | z :: zs, i + 1, h1, h2, h3 => by
    have := h1 0 z (by omega) rfl
    have ih := ins_cut s zs i (fun j y hj hy => h1 (j + 1) y (by omega) (by simpa using hy)) (by simpa using h2) (fun y hy => h3 y (by simpa using hy))
    simp [insB, this, ih]

set_option maxHeartbeats 1000000 in
theorem put12 (v : Value) (zs : List ByteArray) (s : ByteArray) (H : Heap) (nx : Nat) (hz : Zs H nx v zs) (hl : zs.length ≤ 1000) :
    Ans Tryz.prog 12 [v, .string s] H nx fun r H' nx' => Zs H' nx' r (insB s zs) ∧ Ext H nx H' nx' := by
  refine spec12 ?_
  unfold F12
  simp only [W1]
  refine wLoop_rule (fun m L H' nx' => ∃ i, m + i = zs.length ∧ L = [.int .i64 ((i : Nat) : Int)] ∧ (∀ j z, j < i → zs[j]? = some z → Op.bytesLess z.data.toList s.data.toList = true) ∧ H = H' ∧ nx = nx') ?_ (m := zs.length) ⟨0, by omega, rfl, fun j z h => by omega, rfl, rfl⟩
  rintro m ih L _ _ ⟨i, hm, rfl, hst, rfl, rfl⟩ hih
  obtain ⟨A, hv, hA⟩ := hz.open
  refine wJoin_rule (fun L H' nx' => ∃ q : Bool, L = [.bool q] ∧ (q = true → ∃ z, zs[i]? = some z ∧ Op.bytesLess z.data.toList s.data.toList = true) ∧ (q = false → ∀ z, zs[i]? = some z → Op.bytesLess z.data.toList s.data.toList = false) ∧ H = H' ∧ nx = nx') ?_ ?_
  · intro j hj
    subst hv
    by_cases hi : i < zs.length
    · have hi' : (i : Int) < (zs.length : Int) := by omega
      obtain ⟨b, o, row, rfl, hb, hrow, hget⟩ := hA.open (i := i) (by rw [strs_length]; exact hi)
      have hx : zs[i]? = some zs[i] := List.getElem?_eq_getElem hi
      generalize zs[i] = x at hx
      simp (disch := first|omega|assumption) only [W0, oneCells, Yld.val, Nat.reduceAdd, Nat.reduceMul, Nat.reduceLeDiff, hi', ldP_row hrow, hget _ _ (strs_get hx), wBin_strlt]
      exact hj _ _ _ ⟨_, rfl, fun h => ⟨x, hx, h⟩, fun h z hzz => by rw [hx] at hzz; cases hzz; exact h, rfl, rfl⟩
    · have hi' : ¬ (i : Int) < (zs.length : Int) := by omega
      simp (disch := first|omega|assumption) only [W0, oneCells, Yld.val, Nat.reduceAdd, Nat.reduceMul, Nat.reduceLeDiff, hi']
      exact hj _ _ _ ⟨false, rfl, fun h => (by cases h), fun _ z hzz => (by rw [List.getElem?_eq_none (by omega)] at hzz; cases hzz), rfl, rfl⟩
  · rintro _ _ _ ⟨q, rfl, hq1, hq2, rfl, rfl⟩
    cases q with
    | true =>
      simp (disch := first|omega|assumption) only [W0, oneCells, Yld.val, Nat.reduceAdd, Nat.reduceMul, Nat.reduceLeDiff]
      obtain ⟨z, hz1, hz2⟩ := hq1 rfl
      have hi : i < zs.length := by
        rcases Nat.lt_or_ge i zs.length with g | g
        · exact g
        · rw [List.getElem?_eq_none (by omega)] at hz1; cases hz1
      exact hih (m - 1) _ _ _ (by omega) ⟨i + 1, by omega, by simp, fun j y hj hy => by
        by_cases hji : j = i
        · subst hji; rw [hz1] at hy; cases hy; exact hz2
        · exact hst j y (by omega) hy, rfl, rfl⟩
    | false =>
      have hcut := ins_cut s zs i hst (by omega) (hq2 rfl)
      obtain ⟨u1, hu1, hs1⟩ := zs_hi hz (i := i) (by omega)
      obtain ⟨u2, hu2, hs2⟩ := zs_lo hz (i := i) (by omega)
      have x1 : Ext H nx (hs H nx (some (.cells [] 0))) (nx + 1) := (Ext.refl _ _).new _ (Nat.le_refl _) (by omega)
      simp (disch := first|omega|assumption) only [W0, oneCells, Yld.val, Nat.reduceAdd, Nat.reduceMul, Nat.reduceLeDiff, dBsl_none, hu1 _ _ x1]
      refine wApp_litL (lo := nx) (H0 := H) (getH_same _ _ _) (Nat.le_refl _) (by omega) (hs1 _ _ x1) (oneCells_strs _) (m := i) (by omega) (by omega) x1 fun v2 H2 n2 hn2 hacc2 x2 => ?_
      try simp (disch := first|omega|assumption) only [W0, oneCells, Yld.val, Nat.reduceAdd, Nat.reduceMul, Nat.reduceLeDiff]
      have x3 : Ext H2 n2 (hs H2 n2 (some (.cells [.string s] 0))) (n2 + 1) := (Ext.refl _ _).new _ (Nat.le_refl _) (by omega)
      refine wApp_accL (lo := nx) (H0 := H) (y := .string s) (hacc2.ext x3) (src_new (getH_same _ _ _) rfl (by omega)) rfl (by omega) ?_ (x2.trans x3 |>.less (Nat.le_refl _)) ?_ ?_
      · rw [strs_length, List.length_take]; omega
      · have := x2.le; omega
      intro v4 H4 hacc4 x4 _
      try simp (disch := first|omega|assumption) only [W0, oneCells, Yld.val, Nat.reduceAdd, Nat.reduceMul, Nat.reduceLeDiff, hu2 _ _ x4]
      have hlen4 : (strs (zs.take i) ++ [Value.string s]).length = i + 1 := by rw [List.length_append, strs_length, List.length_take]; simp; omega
      have hA4 : Acc nx H4 (n2 + 1 + 1) 1 v4 (i + 1) (strs (zs.take i) ++ [Value.string s]) := by
        rcases hacc4 with h | ⟨h0, _⟩
        · rw [hlen4] at h; exact h
        · have := congrArg List.length h0; rw [hlen4] at this; simp at this
      have hfin : strs (insB s zs) = (strs (zs.take i) ++ [Value.string s]) ++ strs (zs.drop i) := by rw [hcut, strs_app, strs_app]; rfl
      by_cases h0 : zs.length - i = 0
      · have hd : zs.drop i = [] := List.drop_eq_nil_of_le (by omega)
        have hsr := hs2 _ _ x4
        rw [h0, hd] at hsr
        rcases hA4.2 with ⟨h, _⟩ | ⟨b4, g1, g2, rfl, g4⟩
        · omega
        · rw [wApp_z g4 (by rw [hlen4]; omega) hsr (by omega) (by omega)]
          try simp (disch := first|omega|assumption) only [W0, oneCells, Yld.val, Nat.reduceAdd, Nat.reduceMul, Nat.reduceLeDiff]
          refine ⟨.inl ⟨by rw [Nat.mul_one], .inr ⟨b4, Nat.zero_le _, g2, ?_, ?_⟩⟩, x4.hs g1⟩
          · rw [hfin, hd]; show _ = Value.slice _ (_ ++ strs []).length _; rw [show strs [] = [] from rfl, List.append_nil, hlen4]
          · rw [hfin, hd, getH_same]; rw [show strs [] = [] from rfl, List.append_nil]
      · refine wApp_acc (lo := nx) (H0 := H) (by omega) hA4 (hs2 _ _ x4) (by omega) (oneCells_strs _) (by omega) (by omega) x4 ?_ ?_
        · have := x2.le; omega
        intro v6 H6 hA6 x6 _
        try simp (disch := first|omega|assumption) only [W0, oneCells, Yld.val, Nat.reduceAdd, Nat.reduceMul, Nat.reduceLeDiff]
        refine ⟨.inl ?_, x6⟩
        rw [hfin]
        obtain ⟨e1, e2⟩ := hA6
        have hle : (strs (zs.take i) ++ [Value.string s] ++ strs (zs.drop i)).length = i + 1 + (zs.length - i) := by rw [e1, Nat.mul_one]
        rw [hle]
        refine ⟨e1, ?_⟩
        rcases e2 with h | ⟨b, h1, h2⟩
        · exact .inl h
        · exact .inr ⟨b, Nat.zero_le _, h2⟩
end Go.Proofs.YtchmiblahedkcaaGreatDoor
