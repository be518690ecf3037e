/-
  Lemmas on claims that chapter 33 uses: append to a literal, the nil test, min, products.
-/
import Derived.Test.YtchmiblahedkcaaGreatDoorB6
set_option linter.all false
namespace Go.Clo

theorem dBsl_none (z : List Value) (k : List Value → Prop) : dBsl 0 1 z [] k = k [] := by
  rw [dBsl_eq]
  show (if oneCells [] = true then k [] else False) = _
  exact if_pos (show oneCells [] = true from rfl)
theorem firstK_lit {H : Heap} {size n b cap sl : Nat} {c : List Value} (hsz : 0 < size) (hg : getH H b = some (.cells c sl)) (hl : c.length = n * size) (k : List Value → Prop) : firstK H size n (.slice (some ⟨b, 0, none⟩) n cap) False k = k c := by
  rcases Nat.eq_zero_or_pos n with h0 | h0
  · subst h0
    simp at hl; subst hl
    unfold firstK rowK
    dsimp only
    rw [getB_eq, hg]
    simp only [Option.elim_some, Nat.zero_mul, takeN]
    exact spine_eq _ _
  · exact (src_new hg hl (Nat.mul_pos h0 hsz)).first k
theorem wApp_lit {H : Heap} {nx size bytes b n : Nat} {c : List Value} {x : Value} {m : Nat} {l : List Value} {k : EP} (hsz : 0 < size) (hg : getH H b = some (.cells c 0)) (hl : c.length = n * size) (hx : Src H size x m l) (hm : 0 < m) (ho : oneCells l = true)
    (hb1 : (2 * (n + m) + 1000) * bytes ≤ 281474976710656) (hb2 : n + m ≤ 1000000000) : wApp (.slice (some ⟨b, 0, none⟩) n n) x size bytes H nx k = k (.slice (some ⟨nx, 0, none⟩) (n + m) (n + m)) (hs H nx (some (.cells (c ++ l) size))) (nx + 1) := by
  have hlen : (c ++ l).length = (n + m) * size := by rw [List.length_append, hl, hx.size, Nat.add_mul]
  unfold wApp appK
  rw [hx.len]
  dsimp only
  rw [forceN_eq, bltrue hb1, bltrue hb2]
  simp only [Bool.and_self, cond_true]
  rw [hx.first, ho, blfalse (show n < n + m by omega)]
  simp only [cond_true, cond_false]
  rw [firstK_lit hsz hg hl, spine_eq, hlen, beqtrue]
  simp only [cond_true, appOut]
  rw [getB_eq, hg]
  simp only [Option.elim_some]
  have hls : looseA (.cells c 0) 0 n size = some false := rfl
  rw [hls]
  dsimp only
  simp only [appNew]
  rw [forceN_eq, forceN_eq, hsK_eq]
theorem wApp_lit0 {H : Heap} {nx size bytes b n : Nat} {c : List Value} {x : Value} {k : EP} (hg : getH H b = some (.cells c 0)) (hl : c.length = n * size) (hx : Src H size x 0 [])
    (hb1 : (2 * n + 1000) * bytes ≤ 281474976710656) (hb2 : n ≤ 1000000000) : wApp (.slice (some ⟨b, 0, none⟩) n n) x size bytes H nx k = k (.slice (some ⟨b, 0, none⟩) n n) (hs H b (some (.cells c 0))) nx := by
  unfold wApp appK
  rw [hx.len]
  dsimp only
  rw [forceN_eq, bltrue (show (2 * (n + 0) + 1000) * bytes ≤ 281474976710656 from hb1), bltrue (show n + 0 ≤ 1000000000 from hb2)]
  simp only [Bool.and_self, cond_true]
  rw [hx.first]
  simp only [oneCells, cond_true, Nat.add_zero, bltrue (Nat.le_refl n), appIn, forceN_eq]
  rw [putCK_eq, hg]
  simp only [stP_cells, List.length_nil, Nat.add_zero, Nat.zero_add, putL, List.append_nil, List.take_append_drop, hl, Nat.le_refl, true_and]


theorem wVf_isnil (t : TypeId) (A : Option Addr) (n c : Nat) (k : VP) : wVf (.eqn false (.slice t)) [.slice A n c, .slice none 0 0] k = k (.bool A.isNone) := by
  have e : VF.ev (.eqn false (.slice t)) [.slice A n c, .slice none 0 0] = some (.bool A.isNone) := by cases A <;> rfl
  unfold wVf
  rw [e, optK_eq]; rfl
theorem wVf_minN (a b : Nat) (k : VP) : wVf (.mm false) [.int .i64 (a : Int), .int .i64 (b : Int)] k = k (.int .i64 ((min a b : Nat) : Int)) := by
  have e : VF.ev (.mm false) [.int .i64 (a : Int), .int .i64 (b : Int)] = some (.int .i64 ((min a b : Nat) : Int)) := by
    show some (Value.int .i64 (if (b : Int) < (a : Int) then (b : Int) else (a : Int))) = _
    congr 2
    split <;> omega
  unfold wVf
  rw [e, optK_eq]; rfl
theorem wBin_mul64 {a b : Int} (k : VP) (h1 : -9223372036854775808 ≤ a * b) (h2 : a * b < 9223372036854775808) : wBin .mul (.int .i64 a) (.int .i64 b) k = k (.int .i64 (a * b)) := by rw [wBin_mul, i64_id h1 h2]
theorem repeatA_int (z : Int) : ∀ m, repeatA [.int .i64 z] m = i64s (List.replicate m z)
  | 0 => rfl
  | m + 1 => by rw [repeatA, repeatA_int z m]; rfl
theorem dMsl_ints {n : Nat} (h : n ≤ 1000000) (z : Int) (k : List Value → Nat → Nat → Prop) : dMsl (.int .i64 (n : Int)) (.int .i64 (n : Int)) [.int .i64 z] k = k (i64s (List.replicate n z)) n n := by
  show (cond (Nat.ble n n && Nat.ble n 1000000) (Go.Clo.spine (repeatA [.int .i64 z] n) fun cs => k cs n n) False) = _
  rw [bltrue (Nat.le_refl n), bltrue h, repeatA_int]
  exact spine_eq _ _
theorem oneCells_i64s : ∀ l : List Int, oneCells (i64s l) = true
  | [] => rfl
  | x :: l => oneCells_i64s l
theorem sl_new {H : Heap} {nx b sl : Nat} {c : List Value} (hb : b < nx) (hg : getH H b = some (.cells c sl)) : Sl H nx (some ⟨b, 0, none⟩) c := fun i u hu => ⟨b, 0, c, rfl, hb, by simp [rowOf, hg, Blk.row], by simpa using hu⟩
/-- A slice that a function has made, beginning with an empty one of its own. -/
def AccL (lo : Nat) (H : Heap) (nx : Nat) (v : Value) (c : List Value) : Prop :=
  Acc lo H nx 1 v c.length c ∨ (c = [] ∧ ∃ b, lo ≤ b ∧ b < nx ∧ v = .slice (some ⟨b, 0, none⟩) 0 0 ∧ getH H b = some (.cells [] 0))
theorem AccL.ext {lo : Nat} {H : Heap} {nx : Nat} {v : Value} {c : List Value} {H' : Heap} {nx' : Nat} (h : AccL lo H nx v c) (e : Ext H nx H' nx') : AccL lo H' nx' v c := by
  rcases h with h | ⟨h0, b, h1, h2, h3, h4⟩
  · exact .inl (h.ext e)
  · exact .inr ⟨h0, b, h1, Nat.lt_of_lt_of_le h2 e.le, h3, by rw [e.get b h2]; exact h4⟩
theorem AccL.sl {lo : Nat} {H : Heap} {nx : Nat} {v : Value} {c : List Value} (h : AccL lo H nx v c) : ∃ A, v = .slice A c.length c.length ∧ Sl H nx A c ∧ Has H nx A := by
  rcases h with h | ⟨rfl, b, h1, h2, rfl, h4⟩
  · obtain ⟨A, rfl, hS⟩ := h.sl
    refine ⟨A, rfl, hS, ?_⟩
    rcases h.2 with ⟨_, e⟩ | ⟨b, _, h2, e, h4⟩
    · injection e with e1
      exact .inl e1
    · injection e with e1
      subst e1
      exact .inr ⟨b, 0, c, rfl, h2, by simp [rowOf, h4, Blk.row]⟩
  · exact ⟨_, rfl, Sl.nil _ _ _, .inr ⟨b, 0, [], rfl, h2, by simp [rowOf, h4, Blk.row]⟩⟩
theorem wApp_accL {lo : Nat} {H : Heap} {nx bytes : Nat} {v : Value} {c : List Value} {x y : Value} {H0 : Heap} {k : EP} (hA : AccL lo H nx v c) (hx : Src H 1 x 1 [y]) (ho : oneCells [y] = true) (hb : bytes ≤ 16) (hlen : c.length ≤ 1000000) (hE : Ext H0 lo H nx) (hlo : lo ≤ nx)
    (hk : ∀ v' H', AccL lo H' (nx + 1) v' (c ++ [y]) → Ext H0 lo H' (nx + 1) → (∀ i, i < lo → getH H' i = getH H i) → k v' H' (nx + 1)) : wApp v x 1 bytes H nx k := by
  have hb1 : (2 * (c.length + 1) + 1000) * bytes ≤ 281474976710656 := by
    have := Nat.mul_le_mul (show 2 * (c.length + 1) + 1000 ≤ 2 * 1000001 + 1000 by omega) hb
    omega
  rcases hA with hA | ⟨rfl, b, h1, h2, rfl, h4⟩
  · have hblk : ∀ A n' c', v = .slice (some A) n' c' → lo ≤ A.block := fun A n' c' e => by
      rcases hA.2 with ⟨_, e'⟩ | ⟨b, h1, _, e', _⟩
      · rw [e'] at e; cases e
      · rw [e'] at e; cases e; exact h1
    refine wApp_acc (by omega) hA hx (by omega) ho hb1 (by omega) hE hlo fun v' H' h1 h2 h3 => hk v' H' (.inl ?_) h2 fun i hi => h3 i (by omega) fun A n' c' e => by have := hblk A n' c' e; omega
    rw [List.length_append]; exact h1
  · rw [wApp_lit (n := 0) (by omega) h4 (by simp) hx (by omega) ho (by simpa using hb1) (by omega)]
    exact hk _ _ (.inl ⟨rfl, .inr ⟨nx, hlo, by omega, rfl, getH_same _ _ _⟩⟩) (hE.new _ hlo (by omega)) fun i hi => getH_ne _ (by omega)


theorem wCallV_rule {P : Program} {g : FuncId} {first cap args : List Value} {H : Heap} {nx : Nat} {k : EP} {Q : EP} (h : Ans P g (first ++ args ++ cap) H nx Q) (hk : ∀ v H' nx', Q v H' nx' → k v H' nx') :
    wCallV P (.func (.func g) ⟨first⟩ ⟨cap⟩) args H nx k := by
  show spine (first ++ args ++ cap) (fun vs => callP P g vs H nx False k)
  rw [spine_eq]
  exact .inr (h.mono hk)

theorem wApp_litL {lo : Nat} {H : Heap} {nx b bytes m : Nat} {x : Value} {l : List Value} {H0 : Heap} {k : EP} (hg : getH H b = some (.cells [] 0)) (hlo : lo ≤ b) (hb : b < nx) (hx : Src H 1 x m l) (ho : oneCells l = true) (hm : m ≤ 1000000) (hby : bytes ≤ 16) (hE : Ext H0 lo H nx)
    (hk : ∀ v' H' nx', nx ≤ nx' → AccL lo H' nx' v' l → Ext H0 lo H' nx' → k v' H' nx') : wApp (.slice (some ⟨b, 0, none⟩) 0 0) x 1 bytes H nx k := by
  have hb1 : (2 * (0 + m) + 1000) * bytes ≤ 281474976710656 := by
    have := Nat.mul_le_mul (show 2 * (0 + m) + 1000 ≤ 2 * 1000000 + 1000 by omega) hby
    omega
  have hl := hx.size
  rcases Nat.eq_zero_or_pos m with h0 | h0
  · subst h0
    have : l = [] := List.length_eq_zero_iff.1 (by omega)
    subst this
    rw [wApp_lit0 (n := 0) hg (by rfl) hx (by omega) (by omega)]
    exact hk _ _ _ (Nat.le_refl _) (.inr ⟨rfl, b, hlo, hb, rfl, getH_same _ _ _⟩) (hE.hs hlo)
  · rw [wApp_lit (n := 0) (by omega) hg (by simp) hx h0 ho hb1 (by omega)]
    refine hk _ _ _ (by omega) (.inl ⟨by omega, .inr ⟨nx, by omega, by omega, ?_, ?_⟩⟩) (hE.new _ (by omega) (by omega))
    · rw [Nat.zero_add, hl, Nat.mul_one]
    · rw [getH_same]; rfl
end Go.Clo
