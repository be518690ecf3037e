/-
  Lemmas on claims that chapter 33 uses: append to a literal, the nil test, min, products.
-/
import Derived.Test.YtdecggbglnbhlaaGreatDoorCloa
set_option linter.unusedSimpArgs false
set_option linter.unusedVariables false
set_option linter.unusedSectionVars false
namespace Go.Clo

theorem dBsl_none (z : List Value) (k : List Value → Prop) : dBsl 0 1 z [] k = k [] := by
  rw [dBsl_eq]
  show (if oneCells [] = true then k [] else False) = _
  exact if_pos (show oneCells [] = true from rfl)
theorem firstK_lit {H : Heap} {size n b cap sl : Nat} {c : List Value} (hsz : 0 < size) (hg : getH H b = some (.cells c sl)) (hl : c.length = n * size) (k : List Value → Prop) : firstK H size n (.slice (some ⟨b, 0, none⟩) n cap) False k = k c := by
  rcases Nat.eq_zero_or_pos n with h0 | h0
  · subst h0
    simp at hl; subst hl
    unfold firstK rowK
    dsimp only
    rw [getB_eq, hg]
    simp only [Option.elim_some, Nat.zero_mul, takeN]
    exact spine_eq _ _
  · exact (src_new hg hl (Nat.mul_pos h0 hsz)).first k
theorem wApp_lit {H : Heap} {nx size bytes b n : Nat} {c : List Value} {x : Value} {m : Nat} {l : List Value} {k : EP} (hsz : 0 < size) (hg : getH H b = some (.cells c 0)) (hl : c.length = n * size) (hx : Src H size x m l) (hm : 0 < m) (ho : oneCells l = true)
    (hb1 : (2 * (n + m) + 1000) * bytes ≤ 281474976710656) (hb2 : n + m ≤ 1000000000) : wApp (.slice (some ⟨b, 0, none⟩) n n) x size bytes H nx k = k (.slice (some ⟨nx, 0, none⟩) (n + m) (n + m)) (hs H nx (some (.cells (c ++ l) size))) (nx + 1) := by
  have hlen : (c ++ l).length = (n + m) * size := by rw [List.length_append, hl, hx.size, Nat.add_mul]
  unfold wApp appK
  rw [hx.len]
  dsimp only
  rw [forceN_eq, bltrue hb1, bltrue hb2]
  simp only [Bool.and_self, cond_true]
  rw [hx.first, ho, blfalse (show n < n + m by omega)]
  simp only [cond_true, cond_false]
  rw [firstK_lit hsz hg hl, spine_eq, hlen, beqtrue]
  simp only [cond_true, appOut]
  rw [getB_eq, hg]
  simp only [Option.elim_some]
  have hls : looseA (.cells c 0) 0 n size = some false := rfl
  rw [hls]
  dsimp only
  simp only [appNew]
  rw [forceN_eq, forceN_eq, hsK_eq]
theorem wApp_lit0 {H : Heap} {nx size bytes b n : Nat} {c : List Value} {x : Value} {k : EP} (hg : getH H b = some (.cells c 0)) (hl : c.length = n * size) (hx : Src H size x 0 [])
    (hb1 : (2 * n + 1000) * bytes ≤ 281474976710656) (hb2 : n ≤ 1000000000) : wApp (.slice (some ⟨b, 0, none⟩) n n) x size bytes H nx k = k (.slice (some ⟨b, 0, none⟩) n n) (hs H b (some (.cells c 0))) nx := by
  unfold wApp appK
  rw [hx.len]
  dsimp only
  rw [forceN_eq, bltrue (show (2 * (n + 0) + 1000) * bytes ≤ 281474976710656 from hb1), bltrue (show n + 0 ≤ 1000000000 from hb2)]
  simp only [Bool.and_self, cond_true]
  rw [hx.first]
  simp only [oneCells, cond_true, Nat.add_zero, bltrue (Nat.le_refl n), appIn, forceN_eq]
  rw [putCK_eq, hg]
  simp only [stP_cells, List.length_nil, Nat.add_zero, Nat.zero_add, putL, List.append_nil, List.take_append_drop, hl, Nat.le_refl, true_and]


theorem wVf_isnil (t : TypeId) (A : Option Addr) (n c : Nat) (k : VP) : wVf (.eqn false (.slice t)) [.slice A n c, .slice none 0 0] k = k (.bool A.isNone) := by
  have e : VF.ev (.eqn false (.slice t)) [.slice A n c, .slice none 0 0] = some (.bool A.isNone) := by cases A <;> rfl
  unfold wVf
  rw [e, optK_eq]; rfl
theorem wVf_minN (a b : Nat) (k : VP) : wVf (.mm false) [.int .i64 (a : Int), .int .i64 (b : Int)] k = k (.int .i64 ((min a b : Nat) : Int)) := by
  have e : VF.ev (.mm false) [.int .i64 (a : Int), .int .i64 (b : Int)] = some (.int .i64 ((min a b : Nat) : Int)) := by
    show some (Value.int .i64 (if (b : Int) < (a : Int) then (b : Int) else (a : Int))) = _
    congr 2
    split <;> omega
  unfold wVf
  rw [e, optK_eq]; rfl
theorem wBin_mul64 {a b : Int} (k : VP) (h1 : -9223372036854775808 ≤ a * b) (h2 : a * b < 9223372036854775808) : wBin .mul (.int .i64 a) (.int .i64 b) k = k (.int .i64 (a * b)) := by rw [wBin_mul, i64_id h1 h2]
theorem repeatA_int (z : Int) : ∀ m, repeatA [.int .i64 z] m = i64s (List.replicate m z)
  | 0 => rfl
  | m + 1 => by rw [repeatA, repeatA_int z m]; rfl
theorem dMsl_ints {n : Nat} (h : n ≤ 1000000) (z : Int) (k : List Value → Nat → Nat → Prop) : dMsl (.int .i64 (n : Int)) (.int .i64 (n : Int)) [.int .i64 z] k = k (i64s (List.replicate n z)) n n := by
  show (cond (Nat.ble n n && Nat.ble n 1000000) (Go.Clo.spine (repeatA [.int .i64 z] n) fun cs => k cs n n) False) = _
  rw [bltrue (Nat.le_refl n), bltrue h, repeatA_int]
  exact spine_eq _ _
theorem oneCells_i64s : ∀ l : List Int, oneCells (i64s l) = true
  | [] => rfl
  | x :: l => oneCells_i64s l
theorem sl_new {H : Heap} {nx b sl : Nat} {c : List Value} (hb : b < nx) (hg : getH H b = some (.cells c sl)) : Sl H nx (some ⟨b, 0, none⟩) c := fun i u hu => ⟨b, 0, c, rfl, hb, by simp [rowOf, hg, Blk.row], by simpa using hu⟩
end Go.Clo
