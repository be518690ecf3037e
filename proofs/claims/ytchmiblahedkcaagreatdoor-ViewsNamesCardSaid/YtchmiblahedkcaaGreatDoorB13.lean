/-
  Contracts: valid names; rows of names: In, Without, Put, Same.
-/
import Derived.Test.YtchmiblahedkcaaGreatDoorB11
import Derived.Test.YtchmiblahedkcaaGreatDoorB9
import Derived.Test.YtchmiblahedkcaaGreatDoorB12
import Derived.Test.YtchmiblahedkcaaGreatDoorB7
set_option linter.all false
namespace Go.Proofs.YtchmiblahedkcaaGreatDoor
open Go.Clo

theorem wVf_sidx {s : ByteArray} {i : Nat} {c : UInt8} (h : s[i]? = some c) (K : IntKind) (k : VP) : wVf .sidx [.string s, .int K (i : Int)] k = k (.int .u8 (c.toNat : Int)) := by
  have e : VF.ev .sidx [.string s, .int K (i : Int)] = some (.int .u8 (c.toNat : Int)) := by
    show idxV s (i : Int) = _
    unfold idxV
    rw [if_pos (by omega), Int.toNat_natCast, h]; rfl
  unfold wVf
  rw [e, optK_eq]; rfl
theorem byte_at {s : ByteArray} {i : Nat} (h : i < s.size) : ∃ c : UInt8, s[i]? = some c := ⟨_, getElem?_pos s i h⟩
def letterB (c : UInt8) : Bool := (decide (65 ≤ c.toNat) && decide (c.toNat ≤ 90)) || (decide (97 ≤ c.toNat) && decide (c.toNat ≤ 122))
def restB (c : UInt8) : Bool := decide (c.toNat = 95) || (decide (48 ≤ c.toNat) && decide (c.toNat ≤ 57))
/-- A letter, and at most 15 letters, digits and underscores. -/
def NameOK (s : ByteArray) : Prop := 1 ≤ s.size ∧ s.size ≤ 16 ∧ ∀ (i : Nat) (c : UInt8), s[i]? = some c → letterB c = true ∨ (i ≠ 0 ∧ restB c = true)

theorem bytes_eq {a b : ByteArray} (h : a.toList = b.toList) : a = b := by
  rw [ByteArray.toList_eq, ByteArray.toList_eq] at h
  cases a; cases b; simpa using h
theorem wBin_streq (a b : ByteArray) (k : VP) : wBin .eql (.string a) (.string b) k = k (.bool (decide (a = b))) := by
  rw [wBin_eq]
  have e : (a.toList == b.toList) = decide (a = b) := by
    rw [Bool.eq_iff_iff, beq_iff_eq, decide_eq_true_eq]
    exact ⟨fun h => bytes_eq h, fun h => by rw [h]⟩
  simp only [binV, strV, Option.elim_some, e]

set_option maxHeartbeats 2000000 in
theorem catalog37 (s : ByteArray) (H : Heap) (nx : Nat) (hs : s.size ≤ 1000000) : Ans Tryz.prog 11 [.string s] H nx fun r H' nx' => (∃ c : Bool, r = .bool c ∧ (c = true ↔ NameOK s)) ∧ H = H' ∧ nx = nx' := by
  refine spec11 ?_
  unfold F11
  by_cases h1 : s = ⟨#[]⟩
  · have d1 : decide (s = ⟨#[]⟩) = true := by simp [h1]
    simp (disch := first|omega|assumption) only [W0, oneCells, Yld.val, Nat.reduceAdd, Nat.reduceMul, Nat.reduceLeDiff, wJoin_eq, wBin_streq, d1]
    exact ⟨false, rfl, by simp, fun h => by have := h.1; rw [h1] at this; exact absurd this (by decide)⟩
  have d1 : decide (s = ⟨#[]⟩) = false := by simp [h1]
  have h0 : 1 ≤ s.size := by
    rcases Nat.eq_zero_or_pos s.size with h | h
    · exact absurd (by cases s with | mk d => have : d = #[] := Array.eq_empty_of_size_eq_zero h; rw [this]) h1
    · exact h
  by_cases h2 : 16 < s.size
  · have d2 : (16 : Int) < (s.size : Int) := by omega
    simp (disch := first|omega|assumption) only [W0, oneCells, Yld.val, Nat.reduceAdd, Nat.reduceMul, Nat.reduceLeDiff, wJoin_eq, wBin_streq, d1, d2]
    exact ⟨false, rfl, by simp, fun h => by have := h.2.1; omega⟩
  have d2 : ¬ (16 : Int) < (s.size : Int) := by omega
  refine wJoin_rule (fun L H' nx' => L = [.bool false] ∧ H = H' ∧ nx = nx') ?_ ?_
  · intro j hj
    simp (disch := first|omega|assumption) only [W0, oneCells, Yld.val, Nat.reduceAdd, Nat.reduceMul, Nat.reduceLeDiff, wBin_streq, d1, d2]
    exact hj _ _ _ ⟨rfl, rfl, rfl⟩
  rintro _ _ _ ⟨rfl, rfl, rfl⟩
  simp (disch := first|omega|assumption) only [W0, oneCells, Yld.val, Nat.reduceAdd, Nat.reduceMul, Nat.reduceLeDiff]
  refine wLoop_rule (fun m L H' nx' => ∃ i : Nat, m + i = s.size ∧ L = [.int .i64 (i : Int)] ∧ (∀ (j : Nat) (c : UInt8), j < i → s[j]? = some c → letterB c = true ∨ (j ≠ 0 ∧ restB c = true)) ∧ H = H' ∧ nx = nx') ?_ (m := s.size) ⟨0, by omega, rfl, fun j c hj hc => by omega, rfl, rfl⟩
  rintro m ih L _ _ ⟨i, hm, rfl, hst, rfl, rfl⟩ hih
  simp (disch := first|omega|assumption) only [W0, oneCells, Yld.val, Nat.reduceAdd, Nat.reduceMul, Nat.reduceLeDiff]
  by_cases hi : i < s.size
  · have hi' : (i : Int) < (s.size : Int) := by omega
    obtain ⟨c, hc⟩ := byte_at hi
    have ec := fun k => wVf_sidx hc .i64 k
    have next : (letterB c = true ∨ (i ≠ 0 ∧ restB c = true)) → ih [.int .i64 ((i : Int) + 1)] H nx := fun h =>
      hih (m - 1) _ _ _ (by omega) ⟨i + 1, by omega, by simp, fun j c' hj hc' => by
        by_cases hji : j = i
        · subst hji
          rw [hc] at hc'; cases hc'
          exact h
        · exact hst j c' (by omega) hc', rfl, rfl⟩
    have bad : letterB c = false → (i = 0 ∨ restB c = false) → ∃ c' : Bool, Value.bool false = .bool c' ∧ (c' = true ↔ NameOK s) := fun g1 g2 => ⟨false, rfl, by simp, fun h => by
      rcases h.2.2 i c hc with g | g
      · rw [g1] at g; cases g
      · rcases g2 with g2 | g2
        · exact absurd g2 g.1
        · rw [g2] at g; cases g.2⟩
    simp (config := { maxSteps := 2000000 }) (disch := first|omega|assumption) only [W0, oneCells, Yld.val, Nat.reduceAdd, Nat.reduceMul, Nat.reduceLeDiff, hi', ec]
    refine wJoin_rule (fun L H' nx' => L = [.bool (letterB c)] ∧ H = H' ∧ nx = nx') ?_ ?_
    · intro j hj
      have fin : ∀ b : Bool, letterB c = b → j [.bool b] H nx := fun b hb => hj _ _ _ ⟨by rw [hb], rfl, rfl⟩
      by_cases q1 : 97 ≤ c.toNat
      · have q1' : (97 : Int) ≤ (c.toNat : Int) := by omega
        by_cases q2 : c.toNat ≤ 122
        · have q2' : (c.toNat : Int) ≤ 122 := by omega
          simp (disch := first|omega|assumption) only [W0, oneCells, Yld.val, Nat.reduceAdd, Nat.reduceMul, Nat.reduceLeDiff, q1', q2']
          exact fin _ (by simp [letterB, q1, q2])
        · have q2' : ¬ (c.toNat : Int) ≤ 122 := by omega
          have q3' : (65 : Int) ≤ (c.toNat : Int) := by omega
          have q4' : ¬ (c.toNat : Int) ≤ 90 := by omega
          simp (disch := first|omega|assumption) only [W0, oneCells, Yld.val, Nat.reduceAdd, Nat.reduceMul, Nat.reduceLeDiff, q1', q2', q3', q4']
          exact fin _ (by simp [letterB]; omega)
      · have q1' : ¬ (97 : Int) ≤ (c.toNat : Int) := by omega
        by_cases q3 : 65 ≤ c.toNat
        · have q3' : (65 : Int) ≤ (c.toNat : Int) := by omega
          by_cases q4 : c.toNat ≤ 90
          · have q4' : (c.toNat : Int) ≤ 90 := by omega
            simp (disch := first|omega|assumption) only [W0, oneCells, Yld.val, Nat.reduceAdd, Nat.reduceMul, Nat.reduceLeDiff, q1', q3', q4']
            exact fin _ (by simp [letterB, q3, q4])
          · have q4' : ¬ (c.toNat : Int) ≤ 90 := by omega
            simp (disch := first|omega|assumption) only [W0, oneCells, Yld.val, Nat.reduceAdd, Nat.reduceMul, Nat.reduceLeDiff, q1', q3', q4']
            exact fin _ (by simp [letterB]; omega)
        · have q3' : ¬ (65 : Int) ≤ (c.toNat : Int) := by omega
          simp (disch := first|omega|assumption) only [W0, oneCells, Yld.val, Nat.reduceAdd, Nat.reduceMul, Nat.reduceLeDiff, q1', q3']
          exact fin _ (by simp [letterB]; omega)
    · rintro _ _ _ ⟨rfl, rfl, rfl⟩
      cases hl : letterB c with
      | true =>
        simp (disch := first|omega|assumption) only [W0, oneCells, Yld.val, Nat.reduceAdd, Nat.reduceMul, Nat.reduceLeDiff, wJoin_eq, hl]
        exact next (.inl hl)
      | false =>
        by_cases q0 : i = 0
        · have q0' : decide ((i : Int) = 0) = true := by simp; omega
          simp (disch := first|omega|assumption) only [W0, oneCells, Yld.val, Nat.reduceAdd, Nat.reduceMul, Nat.reduceLeDiff, wJoin_eq, hl, q0', u32_eq_zero, q0]
          exact bad hl (.inl q0)
        · have q0' : decide (i = 0) = false := by simp; omega
          by_cases q3 : c.toNat = 95
          · have q3' : decide ((c.toNat : Int) ≠ 95) = false := by simp; omega
            simp (disch := first|omega|assumption) only [W0, oneCells, Yld.val, Nat.reduceAdd, Nat.reduceMul, Nat.reduceLeDiff, wJoin_eq, hl, q0', q3']
            exact next (.inr ⟨q0, by simp [restB, q3]⟩)
          · have q3' : decide ((c.toNat : Int) ≠ 95) = true := by simp; omega
            by_cases q1 : c.toNat < 48
            · have q1' : (c.toNat : Int) < 48 := by omega
              simp (disch := first|omega|assumption) only [W0, oneCells, Yld.val, Nat.reduceAdd, Nat.reduceMul, Nat.reduceLeDiff, wJoin_eq, hl, q0', q3', q1']
              exact bad hl (.inr (by simp [restB, q3]; omega))
            · have q1' : ¬ (c.toNat : Int) < 48 := by omega
              by_cases q2 : 57 < c.toNat
              · have q2' : (57 : Int) < (c.toNat : Int) := by omega
                simp (disch := first|omega|assumption) only [W0, oneCells, Yld.val, Nat.reduceAdd, Nat.reduceMul, Nat.reduceLeDiff, wJoin_eq, hl, q0', q3', q1', q2']
                exact bad hl (.inr (by simp [restB, q3]; omega))
              · have q2' : ¬ (57 : Int) < (c.toNat : Int) := by omega
                simp (disch := first|omega|assumption) only [W0, oneCells, Yld.val, Nat.reduceAdd, Nat.reduceMul, Nat.reduceLeDiff, wJoin_eq, hl, q0', q3', q1', q2']
                exact next (.inr ⟨q0, by simp [restB]; omega⟩)
  · have hi' : ¬ (i : Int) < (s.size : Int) := by omega
    simp (disch := first|omega|assumption) only [W0, oneCells, Yld.val, Nat.reduceAdd, Nat.reduceMul, Nat.reduceLeDiff, hi']
    exact ⟨true, rfl, fun _ => ⟨by omega, by omega, fun j c hc => hst j c (by
      rcases Nat.lt_or_ge j s.size with g | g
      · omega
      · rw [getElem?_neg s j (by omega)] at hc; cases hc) hc⟩, fun _ => rfl⟩

theorem boundA_nat {l n : Nat} (h : l ≤ n) : boundA (some (.int .i64 (l : Int))) n = some l := by
  show (cond (Nat.ble l n) (some l) none) = some l
  rw [bltrue h]; rfl
theorem looseA_some {c : List Value} {sl n : Nat} (hsl : sl = 0 ∨ sl = 1) : ∃ x, looseA (.cells c sl) 0 n 1 = some x := by
  rcases hsl with rfl | rfl
  · exact ⟨_, rfl⟩
  · exact ⟨_, rfl⟩
theorem wSl_lo {H : Heap} {b n l sl : Nat} {c : List Value} (hg : getH H b = some (.cells c sl)) (hl : l < n) (hsl : sl = 0 ∨ sl = 1) (k : VP) : wSl (.slice (some ⟨b, 0, none⟩) n n) 1 (some (.int .i64 (l : Int))) none none H k = k (.slice (some ⟨b, l, none⟩) (n - l) (n - l)) := by
  obtain ⟨x, hx⟩ := looseA_some (c := c) (n := n) hsl
  have e : sliceA (some ⟨b, 0, none⟩) n n 1 (some (.int .i64 (l : Int))) none none x = some (.slice (some ⟨b, l, none⟩) (n - l) (n - l)) := by
    simp only [sliceA, hiA, loA, boundA_nat (Nat.le_of_lt hl)]
    simp only [boundA, beqfalse (show n ≠ l by omega), bltrue (show l ≤ n by omega)]
    simp
  unfold wSl
  dsimp only
  rw [getB_eq, hg]
  simp only [Option.elim_some, slB]
  rw [hx]
  dsimp only
  rw [e]
  exact force1_eq _ _
theorem wSl_hi {H : Heap} {b n h sl : Nat} {c : List Value} (hg : getH H b = some (.cells c sl)) (hh : h ≤ n) (hsl : sl = 0 ∨ sl = 1) (k : VP) : wSl (.slice (some ⟨b, 0, none⟩) n n) 1 none (some (.int .i64 (h : Int))) none H k = k (.slice (some ⟨b, 0, none⟩) h n) := by
  obtain ⟨x, hx⟩ := looseA_some (c := c) (n := n) hsl
  have e : sliceA (some ⟨b, 0, none⟩) n n 1 none (some (.int .i64 (h : Int))) none x = some (.slice (some ⟨b, 0, none⟩) h n) := by
    simp only [sliceA, hiA, loA, boundA_nat hh]
    simp only [boundA, beqtrue, bltrue (Nat.zero_le n), bltrue hh, cond_true]
    cases Nat.beq n 0 <;> simp
  unfold wSl
  dsimp only
  rw [getB_eq, hg]
  simp only [Option.elim_some, slB]
  rw [hx]
  dsimp only
  rw [e]
  exact force1_eq _ _
theorem wBin_strne (a b : ByteArray) (k : VP) : wBin .neq (.string a) (.string b) k = k (.bool (!decide (a = b))) := by
  rw [wBin_eq]
  have e : (a.toList == b.toList) = decide (a = b) := by
    rw [Bool.eq_iff_iff, beq_iff_eq, decide_eq_true_eq]
    exact ⟨fun h => bytes_eq h, fun h => by rw [h]⟩
  simp only [binV, strV, Option.elim_some, e]

/-- A row of names as a function holds it. -/
def Zs (H : Heap) (nx : Nat) (v : Value) (zs : List ByteArray) : Prop := AccL 0 H nx v (strs zs)
theorem Zs.ext {H : Heap} {nx : Nat} {v : Value} {zs : List ByteArray} {H' : Heap} {nx' : Nat} (h : Zs H nx v zs) (e : Ext H nx H' nx') : Zs H' nx' v zs := AccL.ext h e
theorem Zs.nil (H : Heap) (nx : Nat) : Zs H nx (.slice none 0 0) [] := .inl (Acc.nil _ _ _ _)
theorem Zs.open {H : Heap} {nx : Nat} {v : Value} {zs : List ByteArray} (h : Zs H nx v zs) : ∃ A, v = .slice A zs.length zs.length ∧ Sl H nx A (strs zs) := by
  obtain ⟨A, h1, h2, _⟩ := AccL.sl h
  rw [strs_length] at h1
  exact ⟨A, h1, h2⟩

set_option maxHeartbeats 1000000 in
theorem in7 (A : Option Addr) (zs : List ByteArray) (c : Nat) (s : ByteArray) (H : Heap) (nx : Nat) (hA : Sl H nx A (strs zs)) (hl : zs.length ≤ 1000) :
    Ans Tryz.prog 7 [.slice A zs.length c, .string s] H nx fun r H' nx' => (∃ c : Bool, r = .bool c ∧ (c = true ↔ s ∈ zs)) ∧ H = H' ∧ nx = nx' := by
  refine spec7 ?_
  unfold F7
  simp only [W1]
  refine wLoop_rule (fun m L H' nx' => ∃ i : Nat, m + i = zs.length ∧ L = [.int .i64 (i : Int)] ∧ s ∉ zs.take i ∧ H = H' ∧ nx = nx') ?_ (m := zs.length) ⟨0, by omega, rfl, by simp, rfl, rfl⟩
  rintro m ih L _ _ ⟨i, hm, rfl, hst, rfl, rfl⟩ hih
  simp (disch := first|omega|assumption) only [W0, oneCells, Yld.val, Nat.reduceAdd, Nat.reduceMul, Nat.reduceLeDiff]
  by_cases hi : i < zs.length
  · have hi' : (i : Int) < (zs.length : Int) := by omega
    obtain ⟨b, o, row, rfl, hb, hrow, hget⟩ := hA.open (i := i) (by rw [strs_length]; exact hi)
    have hx : zs[i]? = some zs[i] := List.getElem?_eq_getElem hi
    have hxm : zs[i] ∈ zs := List.getElem_mem hi
    have htk : zs.take (i + 1) = zs.take i ++ [zs[i]] := by rw [List.take_add_one, hx]; rfl
    generalize zs[i] = x at hx hxm htk
    by_cases hxs : x = s
    · have d : decide (x = s) = true := by simp [hxs]
      simp (disch := first|omega|assumption) only [W0, oneCells, Yld.val, Nat.reduceAdd, Nat.reduceMul, Nat.reduceLeDiff, hi', ldP_row hrow, hget _ _ (strs_get hx), wBin_streq, d]
      exact ⟨true, rfl, fun _ => hxs ▸ hxm, fun _ => rfl⟩
    · have d : decide (x = s) = false := by simp [hxs]
      simp (disch := first|omega|assumption) only [W0, oneCells, Yld.val, Nat.reduceAdd, Nat.reduceMul, Nat.reduceLeDiff, hi', ldP_row hrow, hget _ _ (strs_get hx), wBin_streq, d]
      exact hih (m - 1) _ _ _ (by omega) ⟨i + 1, by omega, by simp, by rw [htk]; simp [hst]; exact fun e => hxs e.symm, rfl, rfl⟩
  · have hi' : ¬ (i : Int) < (zs.length : Int) := by omega
    simp (disch := first|omega|assumption) only [W0, oneCells, Yld.val, Nat.reduceAdd, Nat.reduceMul, Nat.reduceLeDiff, hi']
    rw [List.take_of_length_le (by omega)] at hst
    exact ⟨false, rfl, fun h => (by cases h), fun h => absurd h hst⟩

set_option maxHeartbeats 1000000 in
theorem same13 (A B : Option Addr) (p q : List ByteArray) (ca cb : Nat) (H : Heap) (nx : Nat) (hA : Sl H nx A (strs p)) (hB : Sl H nx B (strs q)) (hl : p.length ≤ 1000000) :
    Ans Tryz.prog 13 [.slice A p.length ca, .slice B q.length cb] H nx fun r H' nx' => .bool (decide (p = q)) = r ∧ H = H' ∧ nx ≤ nx' := by
  refine spec13 ?_
  unfold F13
  simp only [W1]
  by_cases hne : p.length = q.length
  · have d : decide ((p.length : Int) ≠ (q.length : Int)) = false := by simp [hne]
    simp (disch := first|omega|assumption) only [W0, oneCells, Yld.val, Nat.reduceAdd, Nat.reduceMul, Nat.reduceLeDiff, d]
    refine wLoop_rule (fun m L H' nx' => ∃ i : Nat, m + i = p.length ∧ L = [.int .i64 (i : Int)] ∧ (∀ (j : Nat), j < i → p[j]? = q[j]?) ∧ H = H' ∧ nx ≤ nx') ?_ (m := p.length) ⟨0, by omega, rfl, fun j hj => by omega, rfl, Nat.le_refl _⟩
    rintro m ih L _ n1 ⟨i, hm, rfl, hst, rfl, hn1⟩ hih
    simp (disch := first|omega|assumption) only [W0, oneCells, Yld.val, Nat.reduceAdd, Nat.reduceMul, Nat.reduceLeDiff]
    by_cases hi : i < p.length
    · have hi' : (i : Int) < (p.length : Int) := by omega
      have hi2 : (i : Int) < (q.length : Int) := by omega
      obtain ⟨b, o, row, rfl, hb, hrow, hget⟩ := hA.open (i := i) (by rw [strs_length]; exact hi)
      obtain ⟨b2, o2, row2, rfl, hb2, hrow2, hget2⟩ := hB.open (i := i) (by rw [strs_length]; omega)
      have hx : p[i]? = some p[i] := List.getElem?_eq_getElem hi
      have hy : q[i]? = some (q[i]'(by omega)) := List.getElem?_eq_getElem (by omega)
      generalize p[i] = x at hx
      generalize (q[i]'(by omega)) = y at hy
      by_cases hxy : x = y
      · have d2 : decide (x = y) = true := by simp [hxy]
        simp (disch := first|omega|assumption) only [W0, oneCells, Yld.val, Nat.reduceAdd, Nat.reduceMul, Nat.reduceLeDiff, hi', hi2, ldP_row hrow, ldP_row hrow2, hget _ _ (strs_get hx), hget2 _ _ (strs_get hy), wBin_strne, d2]
        exact hih (m - 1) _ _ _ (by omega) ⟨i + 1, by omega, by simp, fun j hj => by
          by_cases hji : j = i
          · subst hji; rw [hx, hy, hxy]
          · exact hst j (by omega), rfl, by omega⟩
      · have d2 : decide (x = y) = false := by simp [hxy]
        simp (disch := first|omega|assumption) only [W0, oneCells, Yld.val, Nat.reduceAdd, Nat.reduceMul, Nat.reduceLeDiff, hi', hi2, ldP_row hrow, ldP_row hrow2, hget _ _ (strs_get hx), hget2 _ _ (strs_get hy), wBin_strne, d2]
        refine ⟨?_, by omega⟩
        have : p ≠ q := fun e => by
          subst e
          rw [hx] at hy
          injection hy with hy
          exact hxy hy
        simp [this]
    · have hi' : ¬ (i : Int) < (p.length : Int) := by omega
      simp (disch := first|omega|assumption) only [W0, oneCells, Yld.val, Nat.reduceAdd, Nat.reduceMul, Nat.reduceLeDiff, hi']
      refine ⟨?_, hn1⟩
      have : p = q := List.ext_getElem? fun j => by
        by_cases hj : j < i
        · exact hst j hj
        · rw [List.getElem?_eq_none (by omega), List.getElem?_eq_none (by omega)]
      simp [this]
  · have d : decide ((p.length : Int) ≠ (q.length : Int)) = true := by simp; omega
    have : p ≠ q := fun e => hne (by rw [e])
    simp (disch := first|omega|assumption) only [W0, oneCells, Yld.val, Nat.reduceAdd, Nat.reduceMul, Nat.reduceLeDiff, d]
    simp [this]
end Go.Proofs.YtchmiblahedkcaaGreatDoor
