/-
  Contracts: the reference's New, Find.
  Contracts: the reference's New, Pin; insert.
  Contract: the reference's Pin.
  Contracts: snapshot.Store's At, Versions, Pin, Commit.
  Contracts: an engine's Pin, Database, Version.
  Contract: an engine's Log.
  Contract: the reference's Log.
  The law: its state between two batches.
-/
import Derived.Test.YtbmiedinclieaaaGreatDoorU7
import Derived.Test.YtbmiedinclieaaaGreatDoorU5
import Derived.Test.YtbmiedinclieaaaGreatDoorU4
set_option linter.all false
namespace Go.Proofs.YtbmiedinclieaaaGreatDoor
open Go.Clo

/-- v is a slice of the numbers of l; its block is none of those that Av names. -/
def NatsAt (Av : Nat → Prop) (v : Value) (l : List Nat) (H : Heap) (nx : Nat) : Prop := ∃ b sl, v = .slice (some ⟨b, 0, none⟩) l.length l.length ∧ b < nx ∧ ¬ Av b ∧ getH H b = some (.cells (l.map kN) sl)
theorem NatsAt.keep {Av : Nat → Prop} {v : Value} {l : List Nat} {H : Heap} {nx : Nat} {H' : Heap} {nx' : Nat} (h : NatsAt Av v l H nx) (hle : nx ≤ nx') (e : ∀ j, j < nx → ¬ Av j → getH H' j = getH H j) : NatsAt Av v l H' nx' := by
  obtain ⟨b, sl, h1, h2, h3, h4⟩ := h
  exact ⟨b, sl, h1, by omega, h3, by rw [e b h2 h3]; exact h4⟩
theorem NatsAt.ext {Av : Nat → Prop} {v : Value} {l : List Nat} {H : Heap} {nx : Nat} {H' : Heap} {nx' : Nat} (h : NatsAt Av v l H nx) (e : Ext H nx H' nx') : NatsAt Av v l H' nx' := h.keep e.le fun j hj _ => e.get j hj
theorem NatsAt.av {Av Av' : Nat → Prop} {v : Value} {l : List Nat} {H : Heap} {nx : Nat} (h : NatsAt Av v l H nx) (e : ∀ j, Av' j → Av j ∨ nx ≤ j) : NatsAt Av' v l H nx := by
  obtain ⟨b, sl, h1, h2, h3, h4⟩ := h
  exact ⟨b, sl, h1, h2, fun h => (e b h).elim h3 (by omega), h4⟩
theorem NatsAt.at {Av : Nat → Prop} {v : Value} {l : List Nat} {H : Heap} {nx : Nat} (h : NatsAt Av v l H nx) : ∃ b, v = .slice (some ⟨b, 0, none⟩) l.length l.length ∧ b < nx ∧ ¬ Av b ∧ ∀ (j x : Nat) (k : VP), l[j]? = some x → ldP (getH H b) j none k = k (.int .i64 (x : Int)) := by
  obtain ⟨b, sl, h1, h2, h3, h4⟩ := h
  refine ⟨b, h1, h2, h3, fun j x k hx => ?_⟩
  rw [h4, ldP_cells, cellP_one, List.getElem?_map, hx]
  rfl
def refC (V P : Value) (i : Nat) : List Value := [.int .i64 0, .int .i64 (i : Int), .int .i64 0, V, P, .bool false]
theorem NatsAt.out {Av : Nat → Prop} {v : Value} {l : List Nat} {H : Heap} {nx : Nat} (h : NatsAt Av v l H nx) : ∃ b, v = .slice (some ⟨b, 0, none⟩) l.length l.length := by
  obtain ⟨b, sl, h1, _⟩ := h
  exact ⟨b, h1⟩
theorem find13 {Av Av' : Nat → Prop} {V P : Value} {i v : Nat} {l l' : List Nat} {H : Heap} {nx : Nat} (hV : NatsAt Av V l H nx) (hP : NatsAt Av' P l' H nx) (hl : l.length ≤ 100000) :
    Ans Tryz.prog 13 [.agg ⟨refC V P i⟩, .int .i64 (v : Int)] H nx fun y H' nx' => (v ∈ l → ∃ j : Nat, y = .int .i64 (j : Int) ∧ l[j]? = some v) ∧ (v ∉ l → y = .int .i64 (-1)) ∧ Ext H nx H' nx' := by
  refine spec13 ?_
  unfold F13
  simp only [W1]
  have x1 : Ext H nx (hs H nx (some (.cells (refC V P i) 0))) (nx + 1) := (Ext.refl _ _).new _ (Nat.le_refl _) (by omega)
  have hV1 := hV.ext x1
  obtain ⟨p, rfl⟩ := hP.out
  obtain ⟨b, rfl, hb, _, hget⟩ := hV1.at
  unfold refC at hget x1 ⊢
  have a0 := getH_same H nx (some (.cells [.int .i64 0, .int .i64 (i : Int), .int .i64 0, .slice (some ⟨b, 0, none⟩) l.length l.length, .slice (some ⟨p, 0, none⟩) l'.length l'.length, .bool false] 0))
  simp (disch := first|omega|assumption) only [W0, oneCells, Yld.val, Nat.reduceAdd, Nat.reduceMul, Nat.reduceLeDiff]
  revert x1 hget a0
  generalize Go.Clo.hs _ _ _ = K
  intro x1 hget a0
  refine wLoop_rule (fun m L H' nx' => ∃ j : Nat, m + j = l.length ∧ L = [.int .i64 (j : Int)] ∧ (∀ q, q < j → l[q]? ≠ some v) ∧ K = H' ∧ nx + 1 = nx') ?_ (m := l.length) ⟨0, by omega, rfl, fun q hq => by omega, rfl, rfl⟩
  rintro m ih L _ _ ⟨j, hm, rfl, hst, rfl, rfl⟩ hih
  simp (disch := first|omega|assumption) only [W0, oneCells, Yld.val, Nat.reduceAdd, Nat.reduceMul, Nat.reduceLeDiff, a0]
  by_cases hj : j < l.length
  · have hj' : (j : Int) < (l.length : Int) := by omega
    have hx : l[j]? = some l[j] := List.getElem?_eq_getElem hj
    generalize l[j] = x at hx
    by_cases hxv : x = v
    · have d : decide ((x : Int) = (v : Int)) = true := by simp [hxv]
      simp (disch := first|omega|assumption) only [W0, oneCells, Yld.val, Nat.reduceAdd, Nat.reduceMul, Nat.reduceLeDiff, hj', hget j x _ hx, d]
      exact ⟨fun _ => ⟨j, rfl, by rw [hx, hxv]⟩, fun h => absurd (hxv ▸ List.mem_of_getElem? hx) h, x1⟩
    · have d : decide ((x : Int) = (v : Int)) = false := by simp; omega
      simp (disch := first|omega|assumption) only [W0, oneCells, Yld.val, Nat.reduceAdd, Nat.reduceMul, Nat.reduceLeDiff, hj', hget j x _ hx, d]
      exact hih (m - 1) _ _ _ (by omega) ⟨j + 1, by omega, by simp, fun q hq => by
        by_cases e : q = j
        · subst e; rw [hx]; simpa using hxv
        · exact hst q (by omega), rfl, rfl⟩
  · have hj' : ¬ (j : Int) < (l.length : Int) := by omega
    simp (disch := first|omega|assumption) only [W0, oneCells, Yld.val, Nat.reduceAdd, Nat.reduceMul, Nat.reduceLeDiff, hj']
    refine ⟨fun h => ?_, fun _ => by first | rfl | trivial, x1⟩
    obtain ⟨q, hq⟩ := List.mem_iff_getElem?.1 h
    exact absurd hq (hst q (by have := (List.getElem?_eq_some_iff.1 hq).1; omega))
end Go.Proofs.YtbmiedinclieaaaGreatDoor

namespace Go.Proofs.YtbmiedinclieaaaGreatDoor
open Go.Clo

theorem dBsl_z (x : Int) (k : List Value → Prop) : dBsl 1 1 [.int .i64 0] [(0, .int .i64 x)] k = k [.int .i64 x] := by
  rw [dBsl_eq]; rfl
theorem dBsl_0 (z : List Value) (k : List Value → Prop) : dBsl 0 1 z [] k = k [] := dBsl_none z k
theorem wBuild_rf (A B : Option Addr) (n c m d : Nat) (k : VP) : wBuild [.int .i64 0, .int .i64 0, .int .i64 0, .slice none 0 0, .slice none 0 0, .bool false] [(0, 1), (1, 1), (2, 1), (3, 1), (4, 1), (5, 1)] [(3, .slice A n c), (4, .slice B m d)] k = k (.agg ⟨[.int .i64 0, .int .i64 0, .int .i64 0, .slice A n c, .slice B m d, .bool false]⟩) := spine_eq _ _
theorem cellP_6 (a b c d e f : Value) (k : VP) : cellP [a, b, c, d, e, f] 0 (some 6) k = k (.agg ⟨[a, b, c, d, e, f]⟩) := cellP_lit (l := [a, b, c, d, e, f]) k
theorem wLd6 (b o : Nat) (H : Heap) (k : VP) : wLd (.pointer (some ⟨b, o, none⟩)) (some 6) H k = ldP (getH H b) o (some 6) k := wLd_some b o 5 H k
theorem putL_66 (a b c d e f x y z u v w : Value) : putL [a, b, c, d, e, f] 0 [x, y, z, u, v, w] = [x, y, z, u, v, w] := rfl
theorem putL_64 (a b c d e f x : Value) : putL [a, b, c, d, e, f] 4 [x] = [a, b, c, d, x, f] := rfl
theorem putL_63 (a b c d e f x : Value) : putL [a, b, c, d, e, f] 3 [x] = [a, b, c, x, e, f] := rfl
theorem putL_61 (a b c d e f x : Value) : putL [a, b, c, d, e, f] 1 [x] = [a, x, c, d, e, f] := rfl
theorem refnew6 (H : Heap) (nx : Nat) : Ans Tryz.prog 6 [] H nx fun y H' nx' => ∃ V P, y = .agg ⟨refC V P 0⟩ ∧ NatsAt (fun j => j < nx) V [0] H' nx' ∧ NatsAt (fun j => j < nx) P [0] H' nx' ∧ Ext H nx H' nx' := by
  refine spec6 ?_
  unfold F6
  simp only [W1]
  have x1 : Ext H nx (hs H nx (some (.cells [.int .i64 0, .int .i64 0, .int .i64 0, .slice none 0 0, .slice none 0 0, .bool false] 0))) (nx + 1) := (Ext.refl _ _).new _ (Nat.le_refl _) (by omega)
  have x2 := x1.new (m := nx + 1 + 1) (i := nx + 1) (some (.cells [.int .i64 0] 0)) (by omega) (by omega)
  have x3 := x2.new (m := nx + 1 + 1 + 1) (i := nx + 1 + 1) (some (.cells [.int .i64 0] 0)) (by omega) (by omega)
  simp (disch := first|omega|assumption) only [W0, oneCells, Yld.val, Nat.reduceAdd, Nat.reduceMul, Nat.reduceLeDiff, dBsl_z, wBuild_rf, putL_66, cellP_6, wLd6]
  refine ⟨_, _, rfl, ⟨nx + 1, 0, rfl, by omega, by omega, ?_⟩, ⟨nx + 1 + 1, 0, rfl, by omega, by omega, ?_⟩, x3.hs (by omega)⟩
  · simp (disch := omega) only [getH_ne, getH_same]; rfl
  · simp (disch := omega) only [getH_ne, getH_same]; rfl
theorem wBuild_num (x : Int) (k : VP) : wBuild [.int .i64 0, .int .i64 0, .string ⟨#[]⟩] [(0, 1), (1, 1), (2, 1)] [(0, .int .i64 1), (1, .int .i64 x)] k = k (.agg ⟨[.int .i64 1, .int .i64 x, .string ⟨#[]⟩]⟩) := spine_eq _ _
theorem wBuild_ins (s : ByteArray) (A : Option Addr) (n c : Nat) (k : VP) : wBuild [.bool false, .string ⟨#[]⟩, .slice none 0 0] [(0, 1), (1, 1), (2, 1)] [(1, .string s), (2, .slice A n c)] k = k (.agg ⟨[.bool false, .string s, .slice A n c]⟩) := spine_eq _ _
theorem dBsl_num (a b : Int) (s : ByteArray) (k : List Value → Prop) : dBsl 1 3 [.int .i64 0, .int .i64 0, .string ⟨#[]⟩] [(0, .agg ⟨[.int .i64 a, .int .i64 b, .string s]⟩)] k = k [.int .i64 a, .int .i64 b, .string s] := by
  rw [dBsl_eq]; rfl
theorem insert8 (i : Nat) (H : Heap) (nx : Nat) : Ans Tryz.prog 8 [.int .i64 (i : Int)] H nx fun y H' nx' => ∃ a, y = .agg ⟨updV a⟩ ∧ nx ≤ a ∧ a < nx' ∧ getH H' a = some (.cells (rowV i) 0) ∧ Ext H nx H' nx' := by
  refine spec8 ?_
  unfold F8
  simp only [W1]
  simp (disch := first|omega|assumption) only [W0, oneCells, Yld.val, Nat.reduceAdd, Nat.reduceMul, Nat.reduceLeDiff]
  refine wCall_rule (Q := fun y H' nx' => y = .agg ⟨rowV i⟩ ∧ Ext (hs H nx (some (.cells [.bool false, .string ⟨#[]⟩, .slice none 0 0] 0))) (nx + 1) H' nx') ?_ ?_
  · refine spec26 ?_
    unfold F26
    simp only [W1]
    simp (disch := first|omega|assumption) only [W0, oneCells, Yld.val, Nat.reduceAdd, Nat.reduceMul, Nat.reduceLeDiff, wBuild_num, putL_lit3, cellP_lit3]
    exact ⟨rfl, ((Ext.refl _ _).new _ (Nat.le_refl _) (by omega)).hs (by omega)⟩
  rintro _ H3 n3 ⟨rfl, x3⟩
  unfold rowV
  have l3 := x3.le
  have b0 : getH H3 nx = some (.cells [.bool false, .string ⟨#[]⟩, .slice none 0 0] 0) := by rw [x3.get _ (by omega)]; exact getH_same _ _ _
  simp (disch := first|omega|assumption) only [W0, oneCells, Yld.val, Nat.reduceAdd, Nat.reduceMul, Nat.reduceLeDiff, dBsl_num, wBuild_ins, putL_lit3, cellP_lit3, b0]
  refine ⟨n3, rfl, by omega, by omega, ?_, ((((Ext.refl H nx).new (m := nx + 1) _ (Nat.le_refl _) (by omega)).trans x3).new (m := n3 + 1) _ (by omega) (by omega)).hs (by omega)⟩
  simp (disch := omega) only [getH_ne, getH_same]
theorem natsLen {l : List Nat} : (l.map kN).length = l.length := List.length_map ..
theorem oneCells_kN : ∀ l : List Nat, oneCells (l.map kN) = true
  | [] => rfl
  | x :: l => oneCells_kN l
end Go.Proofs.YtbmiedinclieaaaGreatDoor

namespace Go.Proofs.YtbmiedinclieaaaGreatDoor
open Go.Clo

/-- Append to a slice that a function has made: its block is new. -/
theorem wApp_new {lo : Nat} {H : Heap} {nx size bytes : Nat} {v : Value} {n : Nat} {c : List Value} {x : Value} {m : Nat} {l : List Value} {k : EP} (hsz : 0 < size) (hA : Acc lo H nx size v n c) (hx : Src H size x m l) (hm : 0 < m) (ho : oneCells l = true)
    (hb1 : (2 * (n + m) + 1000) * bytes ≤ 281474976710656) (hb2 : n + m ≤ 1000000000)
    (hk : ∀ H', getH H' nx = some (.cells (c ++ l) size) → (∀ i, i < nx → (∀ A n' c', v = .slice (some A) n' c' → A.block ≠ i) → getH H' i = getH H i) → k (.slice (some ⟨nx, 0, none⟩) (n + m) (n + m)) H' (nx + 1)) : wApp v x size bytes H nx k := by
  obtain ⟨hl, hA⟩ := hA
  have hlen : (c ++ l).length = (n + m) * size := by rw [List.length_append, hl, hx.size, Nat.add_mul]
  unfold wApp appK
  rcases hA with ⟨rfl, rfl⟩ | ⟨b, h1, h2, rfl, h4⟩
  · have hc : c = [] := by simp at hl; exact hl
    subst hc
    rw [hx.len]
    dsimp only
    rw [forceN_eq, bltrue hb1, bltrue hb2]
    simp only [Bool.and_self, cond_true]
    rw [hx.first, ho, blfalse (show 0 < 0 + m by omega)]
    simp only [cond_true, cond_false]
    show spine ([] ++ l) _
    rw [spine_eq]
    have e : ([] ++ l).length = (0 + m) * size := hlen
    rw [e, beqtrue]
    simp only [cond_true, appOut, appNew]
    rw [forceN_eq, forceN_eq, hsK_eq]
    exact hk _ (getH_same _ _ _) fun i hi _ => getH_ne _ (by omega)
  · rw [hx.len]
    dsimp only
    rw [forceN_eq, bltrue hb1, bltrue hb2]
    simp only [Bool.and_self, cond_true]
    rw [hx.first, ho, blfalse (show n < n + m by omega)]
    simp only [cond_true, cond_false]
    have hold : ∀ k : List Value → Prop, firstK H size n (.slice (some ⟨b, 0, none⟩) n n) False k = k c := by
      intro k
      rcases Nat.eq_zero_or_pos n with h0 | h0
      · subst h0
        simp at hl; subst hl
        unfold firstK rowK
        dsimp only
        rw [getB_eq, h4]
        simp only [Option.elim_some, Nat.zero_mul, takeN]
        exact spine_eq _ _
      · exact (src_new h4 hl (Nat.mul_pos h0 hsz)).first k
    rw [hold, spine_eq, hlen, beqtrue]
    simp only [cond_true, appOut]
    rw [getB_eq, h4]
    simp only [Option.elim_some]
    have hls : looseO (.cells c size) 0 n size = some true := by
      simp only [looseO]
      rw [beqfalse (show size ≠ 0 by omega), beqtrue]
      simp only [cond_false, cond_true]
      rw [hl, Nat.zero_add, beqtrue]
    rw [hls]
    dsimp only
    rw [hsK_eq]
    simp only [appNew]
    rw [forceN_eq, forceN_eq, hsK_eq]
    refine hk _ (getH_same _ _ _) fun i hi hne => ?_
    rw [getH_ne _ (by omega), getH_ne _ (fun h => hne _ _ _ rfl h.symm)]
theorem accL_nats {Av : Nat → Prop} {lo : Nat} {H : Heap} {nx : Nat} {v : Value} {l : List Nat} (h : AccL lo H nx v (l.map kN)) (hl : l ≠ []) (hAv : ∀ j, Av j → j < lo) : NatsAt Av v l H nx ∧ ∃ b, lo ≤ b ∧ b < nx ∧ v = .slice (some ⟨b, 0, none⟩) l.length l.length ∧ getH H b = some (.cells (l.map kN) 1) := by
  rcases h with ⟨_, h | ⟨b, h1, h2, h3, h4⟩⟩ | ⟨h, _⟩
  · have := h.1
    rw [natsLen] at this
    exact absurd (List.length_eq_zero_iff.1 this) hl
  · rw [natsLen] at h3
    exact ⟨⟨b, 1, h3, h2, fun h => by have := hAv b h; omega, h4⟩, b, h1, h2, h3, h4⟩
  · exact absurd (List.map_eq_nil_iff.1 h) hl
theorem nats_src {Av : Nat → Prop} {v : Value} {l : List Nat} {H : Heap} {nx : Nat} (h : NatsAt Av v l H nx) (hl : l ≠ []) : Src H 1 v l.length (l.map kN) := by
  obtain ⟨b, sl, rfl, _, _, h4⟩ := h
  have := List.length_pos_iff.2 hl
  exact src_new h4 (by rw [natsLen, Nat.mul_one]) (by omega)
theorem map_bump {ks : List Nat} (hnd : ks.Nodup) {j v : Nat} (hj : ks[j]? = some v) (c : Nat → Nat) : (ks.map c).set j (c v + 1) = ks.map (bump c v) := by
  apply List.ext_getElem?
  intro q
  rw [List.getElem?_set, List.getElem?_map, List.getElem?_map]
  have hjl := (List.getElem?_eq_some_iff.1 hj).1
  by_cases e : j = q
  · subst e
    rw [if_pos rfl, if_pos (by rw [List.length_map]; exact hjl), hj]
    simp [bump]
  · rw [if_neg e]
    cases hq : ks[q]? with
    | none => rfl
    | some u =>
      have hne : u ≠ v := fun h => e (by
        subst h
        obtain ⟨a1, a2⟩ := List.getElem?_eq_some_iff.1 hj
        obtain ⟨b1, b2⟩ := List.getElem?_eq_some_iff.1 hq
        exact (List.getElem_inj hnd).1 (a2.trans b2.symm))
      simp [bump, hne]
set_option maxHeartbeats 1000000 in
theorem refpin11 {Av : Nat → Prop} {V P : Value} {i v : Nat} {ks : List Nat} {c : Nat → Nat} {H : Heap} {nx : Nat} (hV : NatsAt Av V ks H nx) (hP : NatsAt Av P (ks.map c) H nx) (hAv : ∀ j, Av j → j < nx) (hl : ks.length ≤ 1000) (hnd : ks.Nodup) (hv : v ∈ ks) (hc : c v ≤ 1000000) :
    Ans Tryz.prog 11 [.agg ⟨refC V P i⟩, .int .i64 (v : Int), .int .i64 1] H nx fun y H' nx' => ∃ P', y = .tuple ⟨[.agg ⟨refC V P' i⟩, .bool true]⟩ ∧ NatsAt Av P' (ks.map (bump c v)) H' nx' ∧ Ext H nx H' nx' := by
  have hV0 := hV
  have hP0 := hP
  obtain ⟨a, rfl⟩ := hV.out
  obtain ⟨b, rfl⟩ := hP.out
  rw [List.length_map] at hP hP0 ⊢
  refine spec11 ?_
  unfold F11
  simp only [W1]
  have x1 : Ext H nx (hs H nx (some (.cells (refC (.slice (some ⟨a, 0, none⟩) ks.length ks.length) (.slice (some ⟨b, 0, none⟩) ks.length ks.length) i) 0))) (nx + 1) := (Ext.refl _ _).new _ (Nat.le_refl _) (by omega)
  have x2 := x1.new (m := nx + 1 + 1) (i := nx + 1) (some (.cells [.int .i64 0, .int .i64 0, .int .i64 0, .slice none 0 0, .slice none 0 0, .bool false] 0)) (by omega) (by omega)
  unfold refC at x2 ⊢
  simp (disch := first|omega|assumption) only [W0, oneCells, Yld.val, Nat.reduceAdd, Nat.reduceMul, Nat.reduceLeDiff, wLd6, cellP_6]
  have hV2 := hV.ext x2
  have hP2 := hP.ext x2
  revert x2 hV2 hP2
  generalize hK : Go.Clo.hs _ _ _ = K
  intro x2 hV2 hP2
  have a0 : getH K nx = some (.cells [.int .i64 0, .int .i64 (i : Int), .int .i64 0, .slice (some ⟨a, 0, none⟩) ks.length ks.length, .slice (some ⟨b, 0, none⟩) ks.length ks.length, .bool false] 0) := by rw [← hK]; simp (disch := omega) only [getH_ne, getH_same]
  have a1 : getH K (nx + 1) = some (.cells [.int .i64 0, .int .i64 0, .int .i64 0, .slice none 0 0, .slice none 0 0, .bool false] 0) := by rw [← hK]; simp (disch := omega) only [getH_same]
  clear hK
  refine wCall_rule (find13 (i := i) (v := v) hV2 hP2 (by omega)) ?_
  rintro y H3 n3 ⟨h1, _, x3⟩
  obtain ⟨j, rfl, hj⟩ := h1 hv
  have hjl := (List.getElem?_eq_some_iff.1 hj).1
  have l3 := x3.le
  have b0 := (x3.get nx (by omega)).trans a0
  have b1 := (x3.get (nx + 1) (by omega)).trans a1
  have hP3 := hP2.ext x3
  have d0 : ¬ (j : Int) < 0 := by omega
  have hcj : (ks.map c)[j]? = some (c v) := by rw [List.getElem?_map, hj]; rfl
  have hget : ∀ k : VP, ldP (getH H3 b) j none k = k (.int .i64 (c v : Int)) := fun k => by
    obtain ⟨b', e, _, _, g⟩ := hP3.at
    injection e with e
    injection e with e
    injection e with e
    rw [e]
    exact g j (c v) k hcj
  have d1 : ¬ (c v : Int) + 1 < 0 := by omega
  have hj1 : (0 : Int) ≤ (j : Int) := by omega
  have hj2 : (j : Int) < (ks.length : Int) := by omega
  rw [wJoin_eq]
  simp (disch := first|omega|assumption) only [W0, oneCells, Yld.val, Nat.reduceAdd, Nat.reduceMul, Nat.reduceLeDiff, d0, b0, b1, hget, d1, wLd6, cellP_6, dBsl_0, putL_66]
  have x4 := (((x2.trans x3).new (m := n3 + 1) (i := n3) (some (.cells [.int .i64 0, .int .i64 0, .int .i64 0, .slice none 0 0, .slice none 0 0, .bool false] 0)) (by omega) (by omega)).hs (i := n3) (b := some (.cells [.int .i64 0, .int .i64 (i : Int), .int .i64 0, .slice (some ⟨a, 0, none⟩) ks.length ks.length, .slice (some ⟨b, 0, none⟩) ks.length ks.length, .bool false] 0)) (by omega)).new (m := n3 + 1 + 1) (i := n3 + 1) (some (.cells [] 0)) (by omega) (by omega)
  have hP4 := hP.ext x4
  revert x4 hP4
  generalize hK : Go.Clo.hs _ (n3 + 1) _ = K4
  intro x4 hP4
  have c1 : getH K4 (nx + 1) = some (.cells [.int .i64 0, .int .i64 0, .int .i64 0, .slice none 0 0, .slice none 0 0, .bool false] 0) := by rw [← hK]; simp (disch := omega) only [getH_ne]; exact b1
  have c3 : getH K4 n3 = some (.cells [.int .i64 0, .int .i64 (i : Int), .int .i64 0, .slice (some ⟨a, 0, none⟩) ks.length ks.length, .slice (some ⟨b, 0, none⟩) ks.length ks.length, .bool false] 0) := by rw [← hK]; simp (disch := omega) only [getH_ne, getH_same]
  have c4 : getH K4 (n3 + 1) = some (.cells [] 0) := by rw [← hK]; exact getH_same _ _ _
  clear hK
  have hne : ks.map c ≠ [] := fun h => by rw [List.map_eq_nil_iff] at h; rw [h] at hv; cases hv
  have hsr := nats_src (v := .slice (some ⟨b, 0, none⟩) ks.length ks.length) hP4 hne
  rw [List.length_map] at hsr
  refine wApp_litL (lo := n3 + 1) (H0 := K4) c4 (Nat.le_refl _) (by omega) hsr (oneCells_kN _) (by omega) (by omega) (Ext.self (by omega)) ?_
  rintro v' H5 n5 hn5 hA x5
  obtain ⟨hN, b5, q1, q2, rfl, q4⟩ := accL_nats (Av := fun _ => False) hA hne (fun j hj => hj.elim)
  rw [List.length_map]
  have e1 := (x5.get (nx + 1) (by omega)).trans c1
  have e3 := (x5.get n3 (by omega)).trans c3
  have hx : ((ks.map c).map kN)[j]? = some (.int .i64 (c v : Int)) := by rw [List.getElem?_map, hcj]; rfl
  have hlen : ((ks.map c).map kN).length = ks.length := by simp
  have hj3 : j < ((ks.map c).map kN).length := by omega
  have hj4 : j + 1 ≤ ((ks.map c).map kN).length := by omega
  simp (disch := first|omega|assumption) only [W0, oneCells, Yld.val, Nat.reduceAdd, Nat.reduceMul, Nat.reduceLeDiff, e1, e3, q4, putL_64, wLd6, cellP_6, hx, putL_66, putL_one hj3, hj4]
  have z5 : Ext H nx H5 n5 := ⟨by omega, fun k hk => (x5.get k (by omega)).trans (x4.get k hk)⟩
  refine ⟨_, rfl, ⟨b5, 1, by rw [List.length_map], by omega, fun h => by have := hAv b5 h; omega, ?_⟩, (((z5.hs (by omega)).hs (by omega)).hs (by omega)).more (by omega)⟩
  rw [getH_ne _ (by omega), getH_same, ← map_bump hnd hj, List.map_set]
  rfl
end Go.Proofs.YtbmiedinclieaaaGreatDoor

namespace Go.Proofs.YtbmiedinclieaaaGreatDoor
open Go.Clo

theorem putL_21 (a b x : Value) : putL [a, b] 1 [x] = [a, x] := rfl
theorem take_1 (a b : Value) : List.take 1 (List.drop 0 [a, b]) = [a] := rfl
theorem at35 {r : Nat} {l : Int} {v : Nat} {ks : List Nat} {m c : Nat → Nat} {H : Heap} {nx : Nat} (hm : IntM H r ks fun u => verV (m u) (c u)) (hr : r < nx) :
    Ans Tryz.prog 35 [.agg ⟨[.map (some r), .int .i64 l]⟩, .int .i64 (v : Int)] H nx fun y H' nx' => (v ∈ ks → y = .tuple ⟨[.agg ⟨[.map (some (m v))]⟩, .int .i64 0]⟩) ∧ (v ∉ ks → ∃ d, y = .tuple ⟨[.agg ⟨[d]⟩, .int .i64 31]⟩ ∧ oneCells [d] = true) ∧ Ext H nx H' nx' := by
  refine spec35 ?_
  unfold F35
  simp only [W1]
  have x1 : Ext H nx (hs H nx (some (.cells [.map (some r), .int .i64 l] 0))) (nx + 1) := (Ext.refl _ _).new _ (Nat.le_refl _) (by omega)
  have x2 := x1.new (m := nx + 1 + 1) (i := nx + 1) (some (.cells [.map none] 0)) (by omega) (by omega)
  have hm2 := hm.ext hr x2
  simp (disch := first|omega|assumption) only [W0, oneCells, Yld.val, Nat.reduceAdd, Nat.reduceMul, Nat.reduceLeDiff]
  by_cases hv : v ∈ ks
  · rw [hm2.lk hv]
    unfold verV
    simp (disch := first|omega|assumption) only [W0, oneCells, Yld.val, Nat.reduceAdd, Nat.reduceMul, Nat.reduceLeDiff, putL_lit2, wLd_1, cellP_12, putL_lit1, cellP_11]
    have x3 := x2.new (m := nx + 1 + 1 + 1) (i := nx + 1 + 1) (some (.cells [.map none, .int .i64 0] 0)) (by omega) (by omega)
    exact ⟨fun _ => by first | rfl | trivial, fun h => absurd hv h, (x3.hs (by omega)).hs (by omega)⟩
  · rw [hm2.miss hv]
    simp (disch := first|omega|assumption) only [W0, oneCells, Yld.val, Nat.reduceAdd, Nat.reduceMul, Nat.reduceLeDiff, putL_lit2, wLd_1, wBuild_d0, putL_lit1, cellP_11]
    have x3 := x2.new (m := nx + 1 + 1 + 1) (i := nx + 1 + 1) (some (.cells [.map none, .int .i64 0] 0)) (by omega) (by omega)
    exact ⟨fun h => absurd h hv, fun _ => ⟨_, rfl, rfl⟩, (x3.hs (by omega)).hs (by omega)⟩
theorem versions31 (hso : SortedOK) {r : Nat} {l : Int} {ks : List Nat} {val : Nat → Value} {H : Heap} {nx : Nat} (hm : IntM H r ks val) (hr : r < nx) (hk : ∀ v ∈ ks, v ≤ 1000000) (hl : ks.length ≤ 1000) :
    Ans Tryz.prog 31 [.agg ⟨[.map (some r), .int .i64 l]⟩] H nx fun y H' nx' => ∃ A c, y = .slice A ks.length c ∧ Ext H nx H' nx' := by
  refine spec31 ?_
  unfold F31
  simp only [W1]
  have x1 : Ext H nx (hs H nx (some (.cells [.map (some r), .int .i64 l] 0))) (nx + 1) := (Ext.refl _ _).new _ (Nat.le_refl _) (by omega)
  have hm1 := hm.ext hr x1
  simp (disch := first|omega|assumption) only [W0, oneCells, Yld.val, Nat.reduceAdd, Nat.reduceMul, Nat.reduceLeDiff]
  refine wCall_rule (hso r ks val _ _ hm1 (by omega) hk hl) ?_
  rintro v H2 n2 ⟨x2, h2⟩
  refine wCall_rule h2 ?_
  rintro _ H3 n3 ⟨A, c, rfl, x3⟩
  exact ⟨A, c, rfl, (x1.trans x2).trans x3⟩
theorem pin34 (hcl : CloneOK) {r : Nat} {l : Int} {v : Nat} {ks : List Nat} {m c : Nat → Nat} {H : Heap} {nx : Nat} (hm : IntM H r ks fun u => verV (m u) (c u)) (hr : r < nx) (hnd : ks.Nodup) (hv : v ∈ ks) (hc : c v ≤ 1000000) :
    Ans Tryz.prog 34 [.agg ⟨[.map (some r), .int .i64 l]⟩, .int .i64 (v : Int)] H nx fun y H' nx' => ∃ q, nx ≤ q ∧ q < nx' ∧ y = .tuple ⟨[.agg ⟨[.map (some q), .int .i64 l]⟩, .int .i64 0]⟩ ∧ IntM H' q ks (fun u => verV (m u) (bump c v u)) ∧ Ext H nx H' nx' := by
  refine spec34 ?_
  unfold F34
  simp only [W1]
  have x1 : Ext H nx (hs H nx (some (.cells [.map (some r), .int .i64 l] 0))) (nx + 1) := (Ext.refl _ _).new _ (Nat.le_refl _) (by omega)
  have x2 := x1.new (m := nx + 1 + 1) (i := nx + 1) (some (.cells [.map none, .int .i64 0] 0)) (by omega) (by omega)
  have hm2 := hm.ext hr x2
  simp (disch := first|omega|assumption) only [W0, oneCells, Yld.val, Nat.reduceAdd, Nat.reduceMul, Nat.reduceLeDiff]
  rw [hm2.lk hv]
  unfold verV
  have x3 := x2.new (m := nx + 1 + 1 + 1) (i := nx + 1 + 1) (some (.cells [.map none, .int .i64 0] 0)) (by omega) (by omega)
  have x4 := (x3.hs (i := nx + 1 + 1) (b := some (.cells [.map (some (m v)), .int .i64 (c v : Int)] 0)) (by omega)).hs (i := nx + 1 + 1) (b := some (.cells [.map (some (m v)), .int .i64 ((c v : Int) + 1)] 0)) (by omega)
  simp (disch := first|omega|assumption) only [W0, oneCells, Yld.val, Nat.reduceAdd, Nat.reduceMul, Nat.reduceLeDiff, putL_lit2, wLd_1, cellP_12, putL_lit1, cellP_11, cellP_lit2, putL_21]
  have hm4 := hm.ext hr x4
  revert x4 hm4
  generalize hK : Go.Clo.hs _ _ _ = K
  intro x4 hm4
  have a1 : getH K (nx + 1) = some (.cells [.map none, .int .i64 0] 0) := by rw [← hK]; simp (disch := omega) only [getH_ne, getH_same]
  clear hK x1 x2 x3 hm2
  refine wCall_rule (with76 hcl hm4 (by have := x4.le; omega) hnd) ?_
  rintro _ H5 n5 ⟨q, hq1, hq2, rfl, hI, x5⟩
  rw [if_pos hv] at hI
  have a2 : getH H5 (nx + 1) = some (.cells [.map none, .int .i64 0] 0) := by rw [x5.get _ (by omega)]; exact a1
  simp (disch := first|omega|assumption) only [W0, oneCells, Yld.val, Nat.reduceAdd, Nat.reduceMul, Nat.reduceLeDiff, putL_lit2, a2, cellP_lit2]
  refine ⟨q, by omega, hq2, rfl, (hI.same (getH_ne _ (by omega))).congr fun u hu => ?_, (x4.trans x5).hs (by omega)⟩
  by_cases e : u = v
  · subst e; simp [bump]
  · simp [bump, e, verV]
/-- The store has one version more. -/
theorem commit33 (C : Cl) (hcl : CloneOK) {Av : Nat → Prop} {r i : Nat} {ks : List Nat} {m c : Nat → Nat} {U : Value} {H : Heap} {nx : Nat} (hm : IntM H r ks fun u => verV (m u) (c u)) (hr : r < nx) (hnd : ks.Nodup) (hi : i ∈ ks) (hni : i + 1 ∉ ks) (hlen : ks.length < 64) (h93 : i < 93)
    (hAv : ∀ j, Av j → j < nx) (hd : C.DbAt Av i (m i) H nx) (hu : UpdAt Av i U H nx) :
    Ans Tryz.prog 33 [.agg ⟨[.map (some r), .int .i64 (i : Int)]⟩, U] H nx fun y H' nx' => ∃ q d', nx ≤ q ∧ q < nx' ∧ y = .tuple ⟨[.agg ⟨[.map (some q), .int .i64 ((i + 1 : Nat) : Int)]⟩, .int .i64 ((i + 1 : Nat) : Int), .int .i64 0]⟩ ∧
      IntM H' q (ks ++ [i + 1]) (fun u => if u = i + 1 then verV d' 0 else verV (m u) (c u)) ∧ C.DbAt Av (i + 1) d' H' nx' ∧ Ext H nx H' nx' := by
  refine spec33 ?_
  unfold F33
  simp only [W1]
  have x1 : Ext H nx (hs H nx (some (.cells [.map (some r), .int .i64 (i : Int)] 0))) (nx + 1) := (Ext.refl _ _).new _ (Nat.le_refl _) (by omega)
  have x2 := x1.new (m := nx + 1 + 1) (i := nx + 1) (some (.cells [.map none, .int .i64 0] 0)) (by omega) (by omega)
  have hm2 := hm.ext hr x2
  have hu2 := (hu.ext x2).more (Av' := AvU Av nx (nx + 1 + 1)) fun j hj => .inl hj
  have hd2 := C.db_e (C.db_av hd (Av' := AvU Av nx (nx + 1 + 1)) fun j hj => hj.imp id fun h => h.1) x2
  revert x2 hm2 hu2 hd2
  generalize hK : Go.Clo.hs _ _ _ = K
  intro x2 hm2 hu2 hd2
  have a0 : getH K nx = some (.cells [.map (some r), .int .i64 (i : Int)] 0) := by rw [← hK]; simp (disch := omega) only [getH_ne, getH_same]
  have a1 : getH K (nx + 1) = some (.cells [.map none, .int .i64 0] 0) := by rw [← hK]; simp (disch := omega) only [getH_same]
  have hpos : 0 < ks.length := List.length_pos_of_mem hi
  have d0 : decide ((ks.length : Int) = 0) = false := decide_eq_false (by omega)
  have d1 : ¬ (64 : Int) ≤ (ks.length : Int) := by omega
  simp (disch := first|omega|assumption) only [W0, oneCells, Yld.val, Nat.reduceAdd, Nat.reduceMul, Nat.reduceLeDiff, hK, a0, hm2.len, d0, d1]
  rw [hm2.lk1 hi, show verV (m i) (c i) = .agg ⟨[.map (some (m i)), .int .i64 (c i : Int)]⟩ from rfl]
  simp (disch := first|omega|assumption) only [W0, oneCells, Yld.val, Nat.reduceAdd, Nat.reduceMul, Nat.reduceLeDiff, take_1]
  refine wCall_rule (C.apply h93 (fun j hj => Or.elim hj (fun h => by have := hAv j h; omega) fun h => by omega) hd2 hu2) ?_
  rintro _ H3 n3 ⟨d', n, rfl, hd3, x3⟩
  have b0 : getH H3 nx = some (.cells [.map (some r), .int .i64 (i : Int)] 0) := by rw [x3.get _ (by omega)]; exact a0
  have b1 : getH H3 (nx + 1) = some (.cells [.map none, .int .i64 0] 0) := by rw [x3.get _ (by omega)]; exact a1
  have l3 := x3.le
  have d2 : decide ((0 : Int) ≠ 0) = false := rfl
  simp (disch := first|omega|assumption) only [W0, oneCells, Yld.val, Nat.reduceAdd, Nat.reduceMul, Nat.reduceLeDiff, d2, putL_lit1]
  have y4 := ((Ext.refl H3 n3).new (m := n3 + 1) (i := n3) (some (.cells [.map none] 0)) (by omega) (by omega)).hs (i := n3) (b := some (.cells [.map (some d')] 0)) (by omega)
  have e0 : getH (hs (hs H3 n3 (some (.cells [.map none] 0))) n3 (some (.cells [.map (some d')] 0))) nx = some (.cells [.map (some r), .int .i64 (i : Int)] 0) := by simp (disch := omega) only [getH_ne]; exact b0
  have e2 : getH (hs (hs H3 n3 (some (.cells [.map none] 0))) n3 (some (.cells [.map (some d')] 0))) n3 = some (.cells [.map (some d')] 0) := getH_same _ _ _
  revert y4 e0 e2
  generalize Go.Clo.hs _ _ _ = K4
  intro y4 e0 e2
  have x4 := (x2.trans x3).trans y4
  have e1 : getH K4 (nx + 1) = some (.cells [.map none, .int .i64 0] 0) := by rw [y4.get _ (by omega)]; exact b1
  have hd4 := C.db_e hd3 y4
  have hm4 := hm.ext hr x4
  simp (disch := first|omega|assumption) only [W0, oneCells, Yld.val, Nat.reduceAdd, Nat.reduceMul, Nat.reduceLeDiff, b0, e0, e1, e2, cellP_lit2, wLd_1, cellP_11, wBuild_v1]
  have hw := with76 (nx := n3 + 1) (l := (i : Int)) (d := some d') (p := 0) hcl (v := i + 1) hm4 (by have := x4.le; omega) hnd
  rw [show ((i + 1 : Nat) : Int) = (i : Int) + 1 by omega] at hw
  refine wCall_rule hw ?_
  rintro _ H5 n5 ⟨q, hq1, hq2, rfl, hI, x5⟩
  rw [if_neg hni] at hI
  have l5 := x5.le
  have c0 : getH H5 nx = some (.cells [.map (some r), .int .i64 (i : Int)] 0) := by rw [x5.get _ (by omega)]; exact e0
  have c1 : getH H5 (nx + 1) = some (.cells [.map none, .int .i64 0] 0) := by rw [x5.get _ (by omega)]; exact e1
  simp (disch := first|omega|assumption) only [W0, oneCells, Yld.val, Nat.reduceAdd, Nat.reduceMul, Nat.reduceLeDiff, c0, c1, putL_lit2, cellP_lit2, putL_21]
  have z1 := (((Ext.refl H5 n5).new (m := n5 + 1) (i := n5) (some (.cells [.map none, .int .i64 0] 0)) (by omega) (by omega)).hs (i := n5) (b := some (.cells [.map (some q), .int .i64 (i : Int)] 0)) (by omega)).hs (i := n5) (b := some (.cells [.map (some q), .int .i64 ((i : Int) + 1)] 0)) (by omega)
  have z2 := (x4.trans x5).trans z1
  refine ⟨q, d', by omega, by omega, by rw [show ((i + 1 : Nat) : Int) = (i : Int) + 1 by omega], ((hI.ext hq2 z1).same (getH_ne _ (by omega))).congr fun u hu => rfl, ?_, (z2.hs (by omega)).more (by omega)⟩
  refine C.db_av (C.db_ext (C.db_e (C.db_e hd4 x5) z1) (by omega) fun j hj hA => getH_ne _ fun e => hA (.inr ⟨by omega, by omega⟩)) fun j hj => .inl (.inl hj)
end Go.Proofs.YtbmiedinclieaaaGreatDoor

namespace Go.Proofs.YtbmiedinclieaaaGreatDoor
open Go.Clo

theorem wLd_24 (b o : Nat) (H : Heap) (k : VP) : wLd (.pointer (some ⟨b, o, none⟩)) (some 24) H k = ldP (getH H b) o (some 24) k := wLd_some b o 23 H k
theorem wLd_16 (b o : Nat) (H : Heap) (k : VP) : wLd (.pointer (some ⟨b, o, none⟩)) (some 16) H k = ldP (getH H b) o (some 16) k := wLd_some b o 15 H k
theorem wLd_6 (b o : Nat) (H : Heap) (k : VP) : wLd (.pointer (some ⟨b, o, none⟩)) (some 6) H k = ldP (getH H b) o (some 6) k := wLd_some b o 5 H k
theorem putL_eng {S : List Value} (hS : S.length = 16) (r l : Nat) : putL [.bool false, .int .i64 0, .pointer none, .pointer none, .pointer none, .int .i64 0, .int .i64 0, .pointer none, .pointer none, .pointer none, .int .i64 0, .int .i64 0, .int .i64 0, .int .u64 0, .int .u64 0, .int .u64 0, .int .i64 0, .int .i64 0, .int .i64 0, .map none, .map none, .slice none 0 0, .map none, .int .i64 0] 0 (eng S r l) = eng S r l := putL_all (by rw [eng_len hS]; rfl)
theorem eng_mk {S : List Value} (hS : S.length = 16) (r l : Nat) (k : VP) : wBuild [.bool false, .int .i64 0, .pointer none, .pointer none, .pointer none, .int .i64 0, .int .i64 0, .pointer none, .pointer none, .pointer none, .int .i64 0, .int .i64 0, .int .i64 0, .int .u64 0, .int .u64 0, .int .u64 0, .int .i64 0, .int .i64 0, .int .i64 0, .map none, .map none, .slice none 0 0, .map none, .int .i64 0] [(0, 6), (6, 16), (22, 2)] [(0, .agg ⟨[.bool true, .int .i64 0, .pointer none, .pointer none, .pointer none, .int .i64 0]⟩), (1, .agg ⟨S⟩), (2, .agg ⟨[.map (some r), .int .i64 (l : Int)]⟩)] k = k (.agg ⟨eng S r l⟩) := eng_build hS r l k
set_option maxHeartbeats 1000000 in
theorem database12 {S : List Value} (hS : S.length = 16) (hO : oneCells S = true) {r l : Nat} {v : Nat} {ks : List Nat} {m c : Nat → Nat} {H : Heap} {nx : Nat} (hm : IntM H r ks fun u => verV (m u) (c u)) (hr : r < nx) :
    Ans Tryz.prog 12 [.agg ⟨eng S r l⟩, .int .i64 (v : Int)] H nx fun y H' nx' => (v ∈ ks → y = .tuple ⟨[.agg ⟨[.map (some (m v))]⟩, .int .i64 0]⟩) ∧ (v ∉ ks → ∃ d, y = .tuple ⟨[.agg ⟨[d]⟩, .int .i64 31]⟩ ∧ oneCells [d] = true) ∧ Ext H nx H' nx' := by
  refine spec12 ?_
  unfold F12
  simp only [W1]
  have hE := eng_one hO r l
  have x1 : Ext H nx (hs H nx (some (.cells (eng S r l) 0))) (nx + 1) := (Ext.refl _ _).new _ (Nat.le_refl _) (by omega)
  have x2 := x1.new (m := nx + 1 + 1) (i := nx + 1) (some (.cells [.map none] 0)) (by omega) (by omega)
  have hm2 := hm.ext hr x2
  simp (disch := first|omega|assumption) only [W0, oneCells, Yld.val, Nat.reduceAdd, Nat.reduceMul, Nat.reduceLeDiff, hE, eng_0 hS, eng_vers hS]
  refine wCall_rule (at35 hm2 (by omega)) ?_
  rintro y H3 n3 ⟨h1, h2, x3⟩
  have l3 := x3.le
  have b1 : getH H3 (nx + 1) = some (.cells [.map none] 0) := by rw [x3.get _ (by omega)]; simp (disch := omega) only [getH_same]
  have d0 : decide ((0 : Int) ≠ 0) = false := rfl
  have d1 : decide ((31 : Int) ≠ 0) = true := rfl
  have y4 := ((x2.trans x3).new (m := n3 + 1) (i := n3) (some (.cells [.map none] 0)) (by omega) (by omega))
  by_cases hv : v ∈ ks
  · rw [h1 hv]
    simp (disch := first|omega|assumption) only [W0, oneCells, Yld.val, Nat.reduceAdd, Nat.reduceMul, Nat.reduceLeDiff, d0, putL_lit1, wLd_1, cellP_11, b1]
    exact ⟨fun _ => by first | rfl | trivial, fun h => absurd hv h, (y4.hs (by omega)).hs (by omega)⟩
  · obtain ⟨d, rfl, hd⟩ := h2 hv
    simp (disch := first|omega|assumption) only [W0, oneCells, Yld.val, Nat.reduceAdd, Nat.reduceMul, Nat.reduceLeDiff, d1, hd, putL_lit1, wLd_1, cellP_11, b1, wBuild_d0]
    exact ⟨fun h => absurd h hv, fun _ => ⟨_, rfl, rfl⟩, (y4.hs (by omega)).hs (by omega)⟩
set_option maxHeartbeats 1000000 in
theorem version15 {S : List Value} (hS : S.length = 16) (hO : oneCells S = true) {r l : Nat} {H : Heap} {nx : Nat} : Ans Tryz.prog 15 [.agg ⟨eng S r l⟩] H nx fun y H' nx' => y = .int .i64 (l : Int) ∧ Ext H nx H' nx' := by
  refine spec15 ?_
  unfold F15
  simp only [W1]
  have hE := eng_one hO r l
  have x1 : Ext H nx (hs H nx (some (.cells (eng S r l) 0))) (nx + 1) := (Ext.refl _ _).new _ (Nat.le_refl _) (by omega)
  simp (disch := first|omega|assumption) only [W0, oneCells, Yld.val, Nat.reduceAdd, Nat.reduceMul, Nat.reduceLeDiff, hE, eng_0 hS, eng_vers hS]
  refine wCall_rule (Q := fun v H' nx' => v = .int .i64 (l : Int) ∧ Ext H nx H' nx') ?_ ?_
  · refine spec37 ?_
    unfold F37
    simp only [W1]
    simp (disch := first|omega|assumption) only [W0, oneCells, Yld.val, Nat.reduceAdd, Nat.reduceMul, Nat.reduceLeDiff]
    exact x1.new _ (by omega) (by omega)
  rintro _ H3 n3 ⟨rfl, x3⟩
  simp (disch := first|omega|assumption) only [W0, oneCells, Yld.val, Nat.reduceAdd, Nat.reduceMul, Nat.reduceLeDiff]
  exact x3
set_option maxHeartbeats 1000000 in
theorem pin10 (hcl : CloneOK) {S : List Value} (hS : S.length = 16) (hO : oneCells S = true) {r l : Nat} {v : Nat} {ks : List Nat} {m c : Nat → Nat} {H : Heap} {nx : Nat} (hm : IntM H r ks fun u => verV (m u) (c u)) (hr : r < nx) (hnd : ks.Nodup) (hv : v ∈ ks) (hc : c v ≤ 1000000) :
    Ans Tryz.prog 10 [.agg ⟨eng S r l⟩, .int .i64 (v : Int)] H nx fun y H' nx' => ∃ q, nx ≤ q ∧ q < nx' ∧ y = .tuple ⟨[.agg ⟨eng S q l⟩, .int .i64 0]⟩ ∧ IntM H' q ks (fun u => verV (m u) (bump c v u)) ∧ Ext H nx H' nx' := by
  refine spec10 ?_
  unfold F10
  simp only [W1]
  have hE := eng_one hO r l
  have x1 : Ext H nx (hs H nx (some (.cells (eng S r l) 0))) (nx + 1) := (Ext.refl _ _).new _ (Nat.le_refl _) (by omega)
  have x2 := x1.new (m := nx + 1 + 1) (i := nx + 1) (some (.cells zE 0)) (by omega) (by omega)
  have hm2 := hm.ext hr x2
  unfold zE at x2 hm2
  simp (disch := first|omega|assumption) only [W0, oneCells, Yld.val, Nat.reduceAdd, Nat.reduceMul, Nat.reduceLeDiff, hE, eng_0 hS, eng_vers hS]
  refine wCall_rule (pin34 hcl hm2 (by omega) hnd hv hc) ?_
  rintro _ H3 n3 ⟨q, hq0, hq, rfl, hI, x3⟩
  have l3 := x3.le
  have b0 : getH H3 nx = some (.cells (eng S r l) 0) := by rw [x3.get _ (by omega)]; simp (disch := omega) only [getH_ne, getH_same]
  have b1 : getH H3 (nx + 1) = some (.cells zE 0) := by rw [x3.get _ (by omega)]; simp (disch := omega) only [getH_same]; rfl
  unfold zE at b1
  have d0 : decide ((0 : Int) ≠ 0) = false := rfl
  have hE2 := eng_one hO q l
  simp (disch := first|omega|assumption) only [W0, oneCells, Yld.val, Nat.reduceAdd, Nat.reduceMul, Nat.reduceLeDiff, d0, putL_lit2, cellP_lit2, b0, b1, eng_state hS, eng_store hS, eng_mk hS, eng_len hS, hE2, putL_eng hS, wLd_24, wLd_6, wLd_16, eng_all hS]
  have z1 := ((Ext.refl H3 n3).new (m := n3 + 1) (i := n3) (some (.cells [.map none, .int .i64 0] 0)) (by omega) (by omega)).hs (i := n3) (b := some (.cells [.map (some q), .int .i64 (l : Int)] 0)) (by omega)
  exact ⟨q, by omega, by omega, rfl, (hI.ext hq z1).same (getH_ne _ (by omega)), ((x2.trans x3).trans z1).hs (by omega)⟩
end Go.Proofs.YtbmiedinclieaaaGreatDoor

namespace Go.Proofs.YtbmiedinclieaaaGreatDoor
open Go.Clo

/-- snapshot.Store's Collect keeps the pinned versions and the latest one. -/
def CollectOK : Prop := ∀ {r l : Nat} {ks : List Nat} {m c : Nat → Nat} {H : Heap} {nx : Nat}, IntM H r ks (fun u => verV (m u) (c u)) → r < nx → ks.Nodup → ks.length ≤ 1000 → (∀ v ∈ ks, v ≤ 1000000) → (∀ v ∈ ks, c v ≤ 1000000) → l ≤ 1000000 →
  Ans Tryz.prog 32 [.agg ⟨[.map (some r), .int .i64 (l : Int)]⟩] H nx fun y H' nx' => ∃ q rem, nx ≤ q ∧ q < nx' ∧ y = .tuple ⟨[.agg ⟨[.map (some q), .int .i64 (l : Int)]⟩, rem]⟩ ∧ IntM H' q (ks.filter fun v => decide (0 < c v) || decide (v = l)) (fun u => verV (m u) (c u)) ∧ Ext H nx H' nx'
theorem eng_g0 (S : List Value) (r l : Nat) : (eng S r l)[0]? = some (.bool true) := rfl
def nextK (c : Nat → Nat) (i : Nat) : List Nat := if i = 63 then (List.range 64).filter (keepB c) else avail c i
theorem nextK_app {c : Nat → Nat} (hc : ∀ v, 41 ≤ v → c v = 0) (i : Nat) : nextK c i ++ [i + 1] = avail c (i + 1) := by
  unfold nextK
  by_cases h : i = 63
  · subst h; rw [if_pos rfl, avail_64 hc]
  · rw [if_neg h, avail_step h]
theorem nextK_sub {c : Nat → Nat} {i v : Nat} (h : v ∈ nextK c i) : v ∈ avail c i := by
  unfold nextK at h
  by_cases e : i = 63
  · subst e; rw [if_pos rfl] at h; rw [avail_low (Nat.le_refl _)]; exact (List.mem_filter.1 h).1
  · rw [if_neg e] at h; exact h
theorem nextK_last {c : Nat → Nat} {i : Nat} : i ∈ nextK c i := by
  unfold nextK
  by_cases e : i = 63
  · subst e; rw [if_pos rfl]; exact List.mem_filter.2 ⟨List.mem_range.2 (by omega), by simp [keepB]⟩
  · rw [if_neg e]; exact avail_last
theorem nextK_nodup (c : Nat → Nat) (i : Nat) : (nextK c i).Nodup := by
  unfold nextK
  by_cases e : i = 63
  · rw [if_pos e]; exact List.nodup_range.filter _
  · rw [if_neg e]; exact avail_nodup c i
theorem nextK_len {c : Nat → Nat} {i : Nat} (hc : ∀ v, 41 ≤ v → c v = 0) (hp : (pinned c).length ≤ 20) (hi : i < 93) : (nextK c i).length < 64 := by
  unfold nextK
  by_cases e : i = 63
  · rw [if_pos e, keep_63 hc]; simp; omega
  · rw [if_neg e]
    by_cases h : i ≤ 63
    · rw [avail_len_low h]; omega
    · rw [avail_len_high (by omega)]; omega
set_option maxHeartbeats 2000000 in
theorem log7 (C : Cl) (hcl : CloneOK) (hso : SortedOK) (hco : CollectOK) {Av : Nat → Prop} {bb : Option Nat} {r i : Nat} {m c : Nat → Nat} {S : List Value} {U : Value} {H : Heap} {nx : Nat} (hst : C.StoreAt Av bb i S H nx) (hm : IntM H r (avail c i) fun u => verV (m u) (c u)) (hr : r < nx) (hrb : ∀ b, bb = some b → r ≠ b) (h93 : i < 93)
    (hAv : ∀ j, Av j → j < nx) (hdb : C.DbAt (AvB Av bb) i (m i) H nx) (hu : UpdAt Av i U H nx) (hc : ∀ v, 41 ≤ v → c v = 0) (hp : (pinned c).length ≤ 20) (hcm : ∀ v, c v ≤ 1000000) :
    Ans Tryz.prog 7 [.agg ⟨eng S r i⟩, U] H nx fun y H' nx' => ∃ S' q d' bb', nx ≤ q ∧ q < nx' ∧ y = .tuple ⟨[.agg ⟨eng S' q (i + 1)⟩, .int .i64 0]⟩ ∧ C.StoreAt Av bb' (i + 1) S' H' nx' ∧ (∀ b, bb' = some b → nx ≤ b ∧ b < q) ∧
      IntM H' q (avail c (i + 1)) (fun u => if u = i + 1 then verV d' 0 else verV (m u) (c u)) ∧ C.DbAt (AvB Av bb') (i + 1) d' H' nx' ∧ Ext (kl H bb) nx H' nx' := by
  obtain ⟨hS, hO⟩ := C.store_len hst
  have hbb := C.store_bb hst
  refine spec7 ?_
  unfold F7
  simp only [W1]
  have hE := eng_one hO r i
  have x1 : Ext H nx (hs H nx (some (.cells (eng S r i) 0))) (nx + 1) := (Ext.refl _ _).new _ (Nat.le_refl _) (by omega)
  have x2 := x1.new (m := nx + 1 + 1) (i := nx + 1) (some (.cells zE 0)) (by omega) (by omega)
  unfold zE at x2
  have hst2 := C.store_e (C.store_av hst (Av' := AvU Av nx (nx + 1 + 1)) fun j hj => hj.imp id fun h => h.1) x2
  have hu2 := (hu.ext x2).more (Av' := AvU Av nx (nx + 1 + 1)) fun j hj => .inl hj
  revert x2 hst2 hu2
  generalize hK : Go.Clo.hs _ _ _ = K
  intro x2 hst2 hu2
  have a0 : getH K nx = some (.cells (eng S r i) 0) := by rw [← hK]; simp (disch := omega) only [getH_ne, getH_same]
  have a1 : getH K (nx + 1) = some (.cells zE 0) := by rw [← hK]; simp (disch := omega) only [getH_same]; rfl
  unfold zE at a1
  simp (config := { maxSteps := 2000000 }) (disch := first|omega|assumption) only [W0, oneCells, Yld.val, Nat.reduceAdd, Nat.reduceMul, Nat.reduceLeDiff, hE, hK, a0, eng_g0, eng_store hS, wLd_16]
  refine wCall_rule (C.log h93 (fun j hj => Or.elim hj (fun h => by have := hAv j h; omega) fun h => by omega) hst2 hu2) ?_
  rintro _ H3 n3 ⟨S', bb', rfl, hst3, hb3, x3⟩
  have hb3' := C.store_bb hst3
  have a0 : getH (kl K bb) nx = some (.cells (eng S r i) 0) := by rw [getH_kl fun b hb => by have := (hbb b hb).1; omega]; exact a0
  have a1 : getH (kl K bb) (nx + 1) = some (.cells zE 0) := by rw [getH_kl fun b hb => by have := (hbb b hb).1; omega]; exact a1
  unfold zE at a1
  have x2 := ext_kl x2 bb
  have hm : IntM (kl H bb) r (avail c i) fun u => verV (m u) (c u) := hm.same (getH_kl hrb)
  have hdb : C.DbAt (AvB Av bb) i (m i) (kl H bb) nx := C.db_ext hdb (Nat.le_refl _) fun j hj hA => getH_kl fun b hb e => hA (.inr (e ▸ hb))
  have hu : UpdAt Av i U (kl H bb) nx := hu.kl hbb
  obtain ⟨hS', hO'⟩ := C.store_len hst3
  have l3 := x3.le
  have b0 : getH H3 nx = some (.cells (eng S r i) 0) := by rw [x3.get _ (by omega)]; exact a0
  have d0 : decide ((0 : Int) ≠ 0) = false := rfl
  have y5 := (((Ext.refl H3 n3).new (m := n3 + 1) (i := n3) (some (.cells [.int .i64 0, .pointer none, .pointer none, .pointer none, .int .i64 0, .int .i64 0, .int .i64 0, .int .u64 0, .int .u64 0, .int .u64 0, .int .i64 0, .int .i64 0, .int .i64 0, .map none, .map none, .slice none 0 0] 0)) (by omega) (by omega)).hs (i := n3) (b := some (.cells S' 0)) (by omega)).new (m := n3 + 1 + 1) (i := n3 + 1) (some (.cells [.map none, .int .i64 0] 0)) (by omega) (by omega) |>.hs (i := n3 + 1) (b := some (.cells [.map (some r), .int .i64 (i : Int)] 0)) (by omega)
  simp (disch := first|omega|assumption) only [W0, oneCells, Yld.val, Nat.reduceAdd, Nat.reduceMul, Nat.reduceLeDiff, d0, hS', hO', eng_vers hS, b0, putL_lit2, putL_all]
  revert y5
  generalize hK5 : Go.Clo.hs _ (n3 + 1) _ = K5
  intro y5
  have g3 : getH K5 n3 = some (.cells S' 0) := by rw [← hK5]; simp (disch := omega) only [getH_ne, getH_same]
  have g4 : getH K5 (n3 + 1) = some (.cells [.map (some r), .int .i64 (i : Int)] 0) := by rw [← hK5]; exact getH_same _ _ _
  clear hK5
  have z5 : Ext (kl H bb) nx K5 (n3 + 1 + 1) := (x2.trans x3).trans y5
  have g0 : getH K5 nx = some (.cells (eng S r i) 0) := by rw [y5.get _ (by omega)]; exact b0
  have g1 : getH K5 (nx + 1) = some (.cells zE 0) := by rw [y5.get _ (by omega), x3.get _ (by omega)]; exact a1
  have hm5 := hm.ext hr z5
  have hle : ∀ v ∈ avail c i, v ≤ 1000000 := fun v hv => by have := avail_le hv; omega
  have hlen : (avail c i).length ≤ 1000 := by
    by_cases h : i ≤ 63
    · rw [avail_len_low h]; omega
    · rw [avail_len_high (by omega)]; omega
  refine wJoin_rule (fun L H' n' => L = [] ∧ n3 + 1 + 1 ≤ n' ∧ (∀ j, j < n3 + 1 + 1 → j ≠ n3 + 1 → getH H' j = getH K5 j) ∧ ∃ r2, r2 < n' ∧ getH H' (n3 + 1) = some (.cells [.map (some r2), .int .i64 (i : Int)] 0) ∧ IntM H' r2 (nextK c i) fun u => verV (m u) (c u)) ?_ ?_
  · intro b hb
    simp (disch := first|omega|assumption) only [W0, oneCells, Yld.val, Nat.reduceAdd, Nat.reduceMul, Nat.reduceLeDiff, cellP_lit2]
    refine wCall_rule (versions31 hso hm5 (by omega) hle hlen) ?_
    rintro _ H6 n6 ⟨A, cc, rfl, x6⟩
    have l6 := x6.le
    have g6 : getH H6 (n3 + 1) = some (.cells [.map (some r), .int .i64 (i : Int)] 0) := by rw [x6.get _ (by omega)]; exact g4
    have hm6 := hm5.ext (by omega) x6
    by_cases h63 : i = 63
    · have d6 : (64 : Int) ≤ ((avail c i).length : Int) := by rw [avail_len_low (by omega)]; omega
      simp (disch := first|omega|assumption) only [W0, oneCells, Yld.val, Nat.reduceAdd, Nat.reduceMul, Nat.reduceLeDiff, d6, g6, cellP_lit2]
      refine wCall_rule (hco hm6 (by omega) (avail_nodup c i) hlen hle (fun v _ => hcm v) (by omega)) ?_
      rintro _ H7 n7 ⟨q, rem, hq0, hq, rfl, hI, x7⟩
      have l7 := x7.le
      have g7 : getH H7 (n3 + 1) = some (.cells [.map (some r), .int .i64 (i : Int)] 0) := by rw [x7.get _ (by omega)]; exact g6
      simp (disch := first|omega|assumption) only [W0, oneCells, Yld.val, Nat.reduceAdd, Nat.reduceMul, Nat.reduceLeDiff, g7, putL_lit2]
      refine hb _ _ _ ⟨rfl, by omega, fun j hj hne => ?_, q, hq, getH_same _ _ _, ?_⟩
      · rw [getH_ne _ hne, x7.get _ (by omega), x6.get _ (by omega)]
      · unfold nextK
        rw [if_pos h63]
        subst h63
        rw [avail_low (Nat.le_refl _)] at hI
        exact hI.same (getH_ne _ (by omega))
    · have d6 : ¬ (64 : Int) ≤ ((avail c i).length : Int) := by
        have := nextK_len hc hp h93
        unfold nextK at this
        rw [if_neg h63] at this
        omega
      simp (disch := first|omega|assumption) only [W0, oneCells, Yld.val, Nat.reduceAdd, Nat.reduceMul, Nat.reduceLeDiff, d6]
      refine hb _ _ _ ⟨rfl, by omega, fun j hj hne => x6.get _ (by omega), r, by omega, g6, ?_⟩
      unfold nextK
      rw [if_neg h63]
      exact hm6
  · rintro _ H6 n6 ⟨rfl, l6, k6, r2, hr2, g6, hm6⟩
    have x6 : Ext (kl H bb) nx H6 n6 := ⟨by omega, fun j hj => by rw [k6 j (by omega) (by omega)]; exact z5.get j hj⟩
    have hdb6 : C.DbAt (AvB (AvU (AvU Av nx (nx + 1 + 1)) n3 (n3 + 1 + 1)) bb') i (m i) H6 n6 := C.db_e (C.db_av hdb fun j hj => by
      rcases hj with ((h | h) | h) | h
      · exact .inl (.inl h)
      · exact .inr h.1
      · exact .inr (by omega)
      · exact .inr (by have := hb3 j h; omega)) x6
    have hst6 : C.StoreAt (AvU (AvU Av nx (nx + 1 + 1)) n3 (n3 + 1 + 1)) bb' (i + 1) S' H6 n6 := C.store_ext (C.store_av hst3 fun j hj => hj.imp id fun h => h.1) (by omega) fun j hj _ => by rw [k6 j (by omega) (by omega)]; exact y5.get j hj
    have hu6 : UpdAt (AvB (AvU (AvU Av nx (nx + 1 + 1)) n3 (n3 + 1 + 1)) bb') i U H6 n6 := (hu.ext x6).more fun j hj => .inl (.inl (.inl hj))
    have k0 : getH H6 nx = some (.cells (eng S r i) 0) := by rw [k6 nx (by omega) (by omega)]; exact g0
    have k1 : getH H6 (nx + 1) = some (.cells zE 0) := by rw [k6 _ (by omega) (by omega)]; exact g1
    have k3 : getH H6 n3 = some (.cells S' 0) := by rw [k6 n3 (by omega) (by omega)]; exact g3
    simp (disch := first|omega|assumption) only [W0, oneCells, Yld.val, Nat.reduceAdd, Nat.reduceMul, Nat.reduceLeDiff, g6, cellP_lit2]
    refine wCall_rule (commit33 C hcl hm6 hr2 (nextK_nodup c i) nextK_last (fun h => by have := avail_le (nextK_sub h); omega) (nextK_len hc hp h93) h93 (fun j hj => Or.elim hj (fun hj => Or.elim hj (fun h => Or.elim h (fun h => by have := hAv j h; omega) fun h => by omega) fun h => by omega) fun h => by have := (hb3' j h).1; omega) hdb6 hu6) ?_
    rintro _ H7 n7 ⟨q, d', hq0, hq, rfl, hI, hd7, x7⟩
    have l7 := x7.le
    rw [nextK_app hc] at hI
    have m0 : getH H7 nx = some (.cells (eng S r i) 0) := by rw [x7.get _ (by omega)]; exact k0
    have m1 : getH H7 (nx + 1) = some (.cells zE 0) := by rw [x7.get _ (by omega)]; exact k1
    have m3 : getH H7 n3 = some (.cells S' 0) := by rw [x7.get _ (by omega)]; exact k3
    have m4 : getH H7 (n3 + 1) = some (.cells [.map (some r2), .int .i64 (i : Int)] 0) := by rw [x7.get _ (by omega)]; exact g6
    unfold zE at m1
    have hE2 := eng_one hO' q (i + 1)
    have e3 : ∀ k : VP, cellP S' 0 (some 16) k = k (.agg ⟨S'⟩) := fun k => by have := cellP_lit (l := S') k; rw [hS'] at this; exact this
    simp (disch := first|omega|assumption) only [W0, oneCells, Yld.val, Nat.reduceAdd, Nat.reduceMul, Nat.reduceLeDiff, d0, m0, m1, m3, m4, putL_lit2, cellP_lit2, wLd_6, wLd_24, eng_state hS, eng_all hS', e3, eng_mk hS', eng_len hS', hE2, putL_eng hS']
    refine ⟨S', q, d', bb', by omega, by omega, rfl, ?_, fun b hb => ⟨by have := hb3 b hb; omega, by have := (hb3' b hb).1; omega⟩, ((hI.same (getH_ne _ (by omega))).same (getH_ne _ (by omega))), ?_, ((x6.trans x7).hs (by omega)).hs (by omega)⟩
    · exact C.store_av (C.store_ext (C.store_ext (C.store_e hst6 x7) (Nat.le_refl _) fun j hj hA => getH_ne _ fun e => hA (.inr ⟨by omega, by omega⟩)) (Nat.le_refl _) fun j hj hA => getH_ne _ fun e => hA (.inl (.inr ⟨by omega, by omega⟩))) fun j hj => .inl (.inl (.inl hj))
    · exact C.db_av (C.db_ext (C.db_ext hd7 (Nat.le_refl _) fun j hj hA => getH_ne _ fun e => hA (.inl (.inr ⟨by omega, by omega⟩))) (Nat.le_refl _) fun j hj hA => getH_ne _ fun e => hA (.inl (.inl (.inr ⟨by omega, by omega⟩)))) fun j hj => .inl (Or.elim hj (fun h => .inl (.inl (.inl h))) fun h => .inr h)
end Go.Proofs.YtbmiedinclieaaaGreatDoor

namespace Go.Proofs.YtbmiedinclieaaaGreatDoor
open Go.Clo

/-- What the reference keeps of the versions before it adds one. -/
def keptL (c : Nat → Nat) (ks : List Nat) : List Nat := if ks.length = 64 then (List.range 64).filter (keepB c) else ks
/-- A slice that the loop has made: its block came after lo and is not q. -/
def MadeN (lo : Nat) (q : Option Nat) (v : Value) (l : List Nat) (H : Heap) (nx : Nat) : Prop :=
  Acc lo H nx 1 v l.length (l.map kN) ∧ ∀ A n c, v = .slice (some A) n c → some A.block ≠ q
theorem acc_one {l : List Nat} {x : Nat} : (l ++ [x]).map kN = l.map kN ++ [kN x] := by simp
theorem acc_len {l : List Nat} {x : Nat} : (l ++ [x]).length = l.length + 1 := by simp
theorem acc_slice {lo : Nat} {H : Heap} {nx n : Nat} {v : Value} {c : List Value} (h : Acc lo H nx 1 v n c) : ∃ A, v = .slice A n n := by
  rcases h.2 with ⟨h1, h2⟩ | ⟨b, _, _, h2, _⟩
  · subst h1; exact ⟨_, h2⟩
  · exact ⟨_, h2⟩
theorem acc_keep {lo : Nat} {H H' : Heap} {nx nx' n : Nat} {v : Value} {c : List Value} (h : Acc lo H nx 1 v n c) (hle : nx ≤ nx') (e : ∀ b, v = .slice (some ⟨b, 0, none⟩) n n → lo ≤ b → b < nx → getH H' b = getH H b) : Acc lo H' nx' 1 v n c := by
  refine ⟨h.1, h.2.imp id ?_⟩
  rintro ⟨b, h1, h2, h3, h4⟩
  exact ⟨b, h1, by omega, h3, by rw [e b h3 h1 h2]; exact h4⟩
theorem acc_lo {lo : Nat} {H : Heap} {nx n : Nat} {v : Value} {c : List Value} (h : Acc lo H nx 1 v n c) {A : Addr} {m e : Nat} (hA : v = .slice (some A) m e) : lo ≤ A.block := by
  rcases h.2 with ⟨_, h2⟩ | ⟨b, h1, _, h2, _⟩
  · rw [h2] at hA; cases hA
  · rw [h2] at hA; cases hA; exact h1
theorem if_or3 {a b : Bool} {E F : Prop} (h : a = true ∨ b = true) (hE : E) : if a = true then E else if b = true then E else F := by cases a <;> cases b <;> simp_all
theorem if_nor3 {a b : Bool} {E F : Prop} (ha : a = false) (hb : b = false) (hF : F) : if a = true then E else if b = true then E else F := by rw [ha, hb]; exact hF
theorem range_keep {c : Nat → Nat} {j : Nat} (h : keepB c j = true) : (List.range (j + 1)).filter (keepB c) = (List.range j).filter (keepB c) ++ [j] := by rw [List.range_succ, List.filter_append]; simp [h]
theorem range_drop {c : Nat → Nat} {j : Nat} (h : keepB c j = false) : (List.range (j + 1)).filter (keepB c) = (List.range j).filter (keepB c) := by rw [List.range_succ, List.filter_append]; simp [h]
set_option maxRecDepth 20000 in
set_option maxHeartbeats 4000000 in
theorem reflog9 {Av : Nat → Prop} {V P : Value} {i : Nat} {ks : List Nat} {c : Nat → Nat} {H : Heap} {nx : Nat} (hV : NatsAt Av V ks H nx) (hP : NatsAt Av P (ks.map c) H nx) (hAv : ∀ j, Av j → j < nx) (hl : ks.length ≤ 1000) (hne : ks ≠ []) (hk : ks.length = 64 → ks = List.range 64) (hi : i ≤ 1000000) (hc : ∀ v, c v ≤ 1000000) :
    Ans Tryz.prog 9 [.agg ⟨refC V P i⟩] H nx fun y H' nx' => ∃ V' P', y = .agg ⟨refC V' P' (i + 1)⟩ ∧ NatsAt Av V' (keptL c ks ++ [i + 1]) H' nx' ∧ NatsAt Av P' ((keptL c ks).map c ++ [0]) H' nx' ∧ Ext H nx H' nx' := by
  have hV0 := hV
  have hP0 := hP
  obtain ⟨a, rfl⟩ := hV.out
  obtain ⟨b, rfl⟩ := hP.out
  rw [List.length_map] at hP hP0 ⊢
  refine spec9 ?_
  unfold F9
  simp (maxSteps := 4000000) only [↓wFl_eq, ↓wFls_eq, ↓wIx_eq, ↓wIxs_eq, ↓wBox_eq, ↓wBsl_eq, ↓wMsl_eq, ↓wAl_eq, ↓Rt_eq, ↓cE_eq, ↓tA_eq, ↓tB_eq, ↓wK_eq, ↓forceN_eq, ↓forceV_eq, ↓hsK_eq, ↓wNm_eq, ↓wNew_eq, ↓i0_eq, ↓i1_eq, ↓bT_eq, ↓bF_eq, ↓la_eq, ↓lb_eq, true_and, and_true, or_false]
  have x1 : Ext H nx (hs H nx (some (.cells (refC (.slice (some ⟨a, 0, none⟩) ks.length ks.length) (.slice (some ⟨b, 0, none⟩) ks.length ks.length) i) 0))) (nx + 1) := (Ext.refl _ _).new _ (Nat.le_refl _) (by omega)
  have x3 := ((x1.new (m := nx + 1 + 1) (i := nx + 1) (some (.cells [.int .i64 0, .int .i64 0, .int .i64 0, .slice none 0 0, .slice none 0 0, .bool false] 0)) (by omega) (by omega)).new (m := nx + 1 + 1 + 1) (i := nx + 1 + 1) (some (.cells [.int .i64 0, .int .i64 0, .int .i64 0, .slice none 0 0, .slice none 0 0, .bool false] 0)) (by omega) (by omega)).hs (i := nx + 1 + 1) (b := some (.cells (refC (.slice (some ⟨a, 0, none⟩) ks.length ks.length) (.slice (some ⟨b, 0, none⟩) ks.length ks.length) i) 0)) (by omega)
  unfold refC at x3 ⊢
  simp (config := { maxSteps := 2000000 }) (disch := first|omega|assumption) only [W0, oneCells, Yld.val, Nat.reduceAdd, Nat.reduceMul, Nat.reduceLeDiff, wLd6, cellP_6, putL_66]
  have hV3 := hV.ext x3
  have hP3 := hP.ext x3
  revert x3 hV3 hP3
  generalize hK : Go.Clo.hs _ (nx + 1 + 1) _ = K
  intro x3 hV3 hP3
  have a0 : getH K nx = some (.cells [.int .i64 0, .int .i64 (i : Int), .int .i64 0, .slice (some ⟨a, 0, none⟩) ks.length ks.length, .slice (some ⟨b, 0, none⟩) ks.length ks.length, .bool false] 0) := by rw [← hK]; simp (disch := omega) only [getH_ne, getH_same]
  have a1 : getH K (nx + 1) = some (.cells [.int .i64 0, .int .i64 0, .int .i64 0, .slice none 0 0, .slice none 0 0, .bool false] 0) := by rw [← hK]; simp (disch := omega) only [getH_ne, getH_same]
  have a2 : getH K (nx + 1 + 1) = some (.cells [.int .i64 0, .int .i64 (i : Int), .int .i64 0, .slice (some ⟨a, 0, none⟩) ks.length ks.length, .slice (some ⟨b, 0, none⟩) ks.length ks.length, .bool false] 0) := by rw [← hK]; exact getH_same _ _ _
  clear hK
  obtain ⟨a', ea, ha, hna, hgetV⟩ := hV3.at
  obtain ⟨b', eb, hb, hnb, hgetP⟩ := hP3.at
  injection ea with ea; injection ea with ea; injection ea with ea; subst ea
  injection eb with eb; injection eb with eb; injection eb with eb; subst eb
  have hVlt : a < nx := by obtain ⟨q, _, e, h, _⟩ := hV0; injection e with e; injection e with e; injection e with e; omega
  have hPlt : b < nx := by obtain ⟨q, _, e, h, _⟩ := hP0; injection e with e; injection e with e; injection e with e; omega
  refine wJoin_rule (fun L H' n' => L = [] ∧ nx + 1 + 1 + 1 ≤ n' ∧ (∀ j, j < nx + 1 + 1 → getH H' j = getH K j) ∧ ∃ v p, getH H' (nx + 1 + 1) = some (.cells [.int .i64 0, .int .i64 (i : Int), .int .i64 0, v, p, .bool false] 0) ∧ NatsAt (fun j => j = nx + 1 + 1) v (keptL c ks) H' n' ∧ NatsAt (fun j => j = nx + 1 + 1) p ((keptL c ks).map c) H' n') ?_ ?_
  · intro fin hfin
    by_cases h64 : ks.length = 64
    · have d64 : decide ((ks.length : Int) = 64) = true := by simp; omega
      simp (disch := first|omega|assumption) only [W0, oneCells, Yld.val, Nat.reduceAdd, Nat.reduceMul, Nat.reduceLeDiff, a0, d64, a2, putL_63, putL_64]
      have hks := hk h64
      have hlt : ∀ j, j < 64 → ks[j]? = some j := fun j hj => by rw [hks, List.getElem?_range hj]
      have hct : ∀ j, j < 64 → (ks.map c)[j]? = some (c j) := fun j hj => by rw [List.getElem?_map, hlt j hj]; rfl
      refine wLoop_rule (fun m L H' n' => ∃ (j : Nat) (v p : Value), m + j = 64 ∧ L = [.int .i64 (j : Int)] ∧ getH H' (nx + 1 + 1) = some (.cells [.int .i64 0, .int .i64 (i : Int), .int .i64 0, v, p, .bool false] 0) ∧ Acc (nx + 1 + 1 + 1) H' n' 1 v ((List.range j).filter (keepB c)).length (((List.range j).filter (keepB c)).map kN) ∧
        Acc (nx + 1 + 1 + 1) H' n' 1 p ((List.range j).filter (keepB c)).length ((((List.range j).filter (keepB c)).map c).map kN) ∧ (∀ A n e B q d, v = .slice (some A) n e → p = .slice (some B) q d → A.block ≠ B.block) ∧ (∀ q, q < nx + 1 + 1 → getH H' q = getH K q) ∧ nx + 1 + 1 + 1 ≤ n') ?_ (m := 64) ⟨0, .slice none 0 0, .slice none 0 0, by omega, rfl, getH_same _ _ _, Acc.nil _ _ _ _, Acc.nil _ _ _ _, fun A n e B q d h => by (injection h with h; cases h), fun q hq => by simp (disch := omega) only [getH_ne], Nat.le_refl _⟩
      rintro m ih L H' n' ⟨j, v, p, hm, rfl, hg, hv, hp, hvp, hq, hn⟩ hih
      have q0 := (hq nx (by omega)).trans a0
      by_cases hj : j < 64
      · have hj' : (j : Int) < (ks.length : Int) := by omega
        have hj0 : (0 : Int) ≤ (j : Int) := by omega
        have gV : ∀ k : VP, ldP (getH H' a) j none k = k (.int .i64 (j : Int)) := fun k => by rw [hq a (by omega)]; exact hgetV j j k (hlt j hj)
        have gP : ∀ k : VP, ldP (getH H' b) j none k = k (.int .i64 (c j : Int)) := fun k => by rw [hq b (by omega)]; exact hgetP j (c j) k (hct j hj)
        have next : ∀ H2 n2 v2 p2, getH H2 (nx + 1 + 1) = some (.cells [.int .i64 0, .int .i64 (i : Int), .int .i64 0, v2, p2, .bool false] 0) → Acc (nx + 1 + 1 + 1) H2 n2 1 v2 ((List.range (j + 1)).filter (keepB c)).length (((List.range (j + 1)).filter (keepB c)).map kN) →
            Acc (nx + 1 + 1 + 1) H2 n2 1 p2 ((List.range (j + 1)).filter (keepB c)).length ((((List.range (j + 1)).filter (keepB c)).map c).map kN) → (∀ A n e B q d, v2 = .slice (some A) n e → p2 = .slice (some B) q d → A.block ≠ B.block) → (∀ q, q < nx + 1 + 1 → getH H2 q = getH K q) → nx + 1 + 1 + 1 ≤ n2 → ih [.int .i64 ((j : Int) + 1)] H2 n2 := fun H2 n2 v2 p2 h1 h2 h3 h4 h5 h6 =>
          hih (m - 1) _ _ _ (by omega) ⟨j + 1, v2, p2, by omega, by simp, h1, h2, h3, h4, h5, h6⟩
        simp (disch := first|omega|assumption) only [W0, oneCells, Yld.val, Nat.reduceAdd, Nat.reduceMul, Nat.reduceLeDiff, q0, hj', wJoin_eq, gP, gV]
        by_cases hkj : keepB c j = true
        · refine if_or3 ?_ ?_
          · unfold keepB at hkj
            rw [Bool.or_eq_true, decide_eq_true_eq, decide_eq_true_eq] at hkj
            rcases hkj with h | h
            · exact .inl (by simp; omega)
            · exact .inr (by simp; omega)
          obtain ⟨Av1, rfl⟩ := acc_slice hv
          obtain ⟨Ap1, rfl⟩ := acc_slice hp
          have hfl : ((List.range j).filter (keepB c)).length ≤ 64 := Nat.le_trans (List.length_filter_le _ _) (by rw [List.length_range]; omega)
          have hv1 : Acc (nx + 1 + 1 + 1) (hs H' (n' + 7) (some (.cells [.int .i64 (j : Int)] 0))) (n' + 11) 1 _ _ _ := acc_keep hv (by omega) fun q _ _ hq2 => getH_ne _ (by omega)
          simp (disch := first|omega|assumption) only [W0, oneCells, Yld.val, Nat.reduceAdd, Nat.reduceMul, Nat.reduceLeDiff, hg, dBsl_z]
          have hsr1 : Src (hs H' (n' + 7) (some (.cells [.int .i64 (j : Int)] 0))) 1 (.slice (some ⟨n' + 7, 0, none⟩) 1 1) 1 [.int .i64 (j : Int)] := src_new (getH_same _ _ _) rfl (by omega)
          have hK1 : ∀ q, q < n' → getH (hs H' (n' + 7) (some (.cells [.int .i64 (j : Int)] 0))) q = getH H' q := fun q hq => getH_ne _ (by omega)
          revert hsr1 hv1 hK1
          generalize Go.Clo.hs H' (n' + 7) _ = K1
          generalize hN : n' + 11 = N1
          intro hv1 hsr1 hK1
          have hb1 : (2 * (((List.range j).filter (keepB c)).length + 1) + 1000) * 8 ≤ 281474976710656 := by omega
          have hb2 : ((List.range j).filter (keepB c)).length + 1 ≤ 1000000000 := by omega
          refine wApp_new (Nat.lt_succ_self 0) hv1 hsr1 (Nat.lt_succ_self 0) rfl hb1 hb2 ?_
          intro H1 hB1 hk1
          have hH1 : ∀ q, q < nx + 1 + 1 + 1 → getH H1 q = getH H' q := fun q hq => by rw [hk1 q (by omega) fun A n e h => by have := acc_lo hv h; omega, hK1 q (by omega)]
          have e1 := (hH1 (nx + 1 + 1) (by omega)).trans hg
          have e0 := (hH1 nx (by omega)).trans q0
          have gP1 : ∀ k : VP, ldP (getH H1 b) j none k = k (.int .i64 (c j : Int)) := fun k => by rw [hH1 b (by omega)]; exact gP k
          have hp1 : Acc (nx + 1 + 1 + 1) H1 (N1 + 1) 1 (.slice Ap1 ((List.range j).filter (keepB c)).length ((List.range j).filter (keepB c)).length) ((List.range j).filter (keepB c)).length ((((List.range j).filter (keepB c)).map c).map kN) :=
            acc_keep hp (by omega) fun q hpq _ hq2 => by rw [hk1 q (by omega) fun A n e h => hvp A n e _ _ _ h hpq, hK1 q hq2]
          simp (disch := first|omega|assumption) only [W0, oneCells, Yld.val, Nat.reduceAdd, Nat.reduceMul, Nat.reduceLeDiff, e1, e0, putL_63, gP1, dBsl_z]
          have hp2 : Acc (nx + 1 + 1 + 1) (hs (hs H1 (nx + 1 + 1) (some (.cells [.int .i64 0, .int .i64 (i : Int), .int .i64 0, .slice (some ⟨N1, 0, none⟩) (((List.range j).filter (keepB c)).length + 1) (((List.range j).filter (keepB c)).length + 1), .slice Ap1 ((List.range j).filter (keepB c)).length ((List.range j).filter (keepB c)).length, .bool false] 0))) (N1 + 1 + 7) (some (.cells [.int .i64 (c j : Int)] 0))) (N1 + 1 + 11) 1 _ _ _ :=
            acc_keep hp1 (by omega) fun q _ hq1 hq2 => by rw [getH_ne _ (by omega), getH_ne _ (by omega)]
          have hA2 : getH (hs (hs H1 (nx + 1 + 1) (some (.cells [.int .i64 0, .int .i64 (i : Int), .int .i64 0, .slice (some ⟨N1, 0, none⟩) (((List.range j).filter (keepB c)).length + 1) (((List.range j).filter (keepB c)).length + 1), .slice Ap1 ((List.range j).filter (keepB c)).length ((List.range j).filter (keepB c)).length, .bool false] 0))) (N1 + 1 + 7) (some (.cells [.int .i64 (c j : Int)] 0))) N1 = some (.cells (((List.range j).filter (keepB c)).map kN ++ [.int .i64 (j : Int)]) 1) := by rw [getH_ne _ (by omega), getH_ne _ (by omega)]; exact hB1
          have hsr2 : Src (hs (hs H1 (nx + 1 + 1) (some (.cells [.int .i64 0, .int .i64 (i : Int), .int .i64 0, .slice (some ⟨N1, 0, none⟩) (((List.range j).filter (keepB c)).length + 1) (((List.range j).filter (keepB c)).length + 1), .slice Ap1 ((List.range j).filter (keepB c)).length ((List.range j).filter (keepB c)).length, .bool false] 0))) (N1 + 1 + 7) (some (.cells [.int .i64 (c j : Int)] 0))) 1 (.slice (some ⟨N1 + 1 + 7, 0, none⟩) 1 1) 1 [.int .i64 (c j : Int)] := src_new (getH_same _ _ _) rfl (by omega)
          have f2 : getH (hs (hs H1 (nx + 1 + 1) (some (.cells [.int .i64 0, .int .i64 (i : Int), .int .i64 0, .slice (some ⟨N1, 0, none⟩) (((List.range j).filter (keepB c)).length + 1) (((List.range j).filter (keepB c)).length + 1), .slice Ap1 ((List.range j).filter (keepB c)).length ((List.range j).filter (keepB c)).length, .bool false] 0))) (N1 + 1 + 7) (some (.cells [.int .i64 (c j : Int)] 0))) (nx + 1 + 1) = some (.cells [.int .i64 0, .int .i64 (i : Int), .int .i64 0, .slice (some ⟨N1, 0, none⟩) (((List.range j).filter (keepB c)).length + 1) (((List.range j).filter (keepB c)).length + 1), .slice Ap1 ((List.range j).filter (keepB c)).length ((List.range j).filter (keepB c)).length, .bool false] 0) := by simp (disch := omega) only [getH_ne, getH_same]
          have hK2 : ∀ q, q < nx + 1 + 1 → getH (hs (hs H1 (nx + 1 + 1) (some (.cells [.int .i64 0, .int .i64 (i : Int), .int .i64 0, .slice (some ⟨N1, 0, none⟩) (((List.range j).filter (keepB c)).length + 1) (((List.range j).filter (keepB c)).length + 1), .slice Ap1 ((List.range j).filter (keepB c)).length ((List.range j).filter (keepB c)).length, .bool false] 0))) (N1 + 1 + 7) (some (.cells [.int .i64 (c j : Int)] 0))) q = getH H' q := fun q hq => by rw [getH_ne _ (by omega), getH_ne _ (by omega), hH1 q (by omega)]
          revert hp2 hA2 hsr2 f2 hK2
          generalize Go.Clo.hs _ (N1 + 1 + 7) _ = K2
          generalize hN2 : N1 + 1 + 11 = N2
          intro hp2 hA2 hsr2 f2 hK2
          refine wApp_new (Nat.lt_succ_self 0) hp2 hsr2 (Nat.lt_succ_self 0) rfl hb1 hb2 ?_
          intro H2 hB2 hk2
          have g2 := (hk2 (nx + 1 + 1) (by omega) fun A n e h => by have := acc_lo hp h; omega).trans f2
          simp (disch := first|omega|assumption) only [W0, oneCells, Yld.val, Nat.reduceAdd, Nat.reduceMul, Nat.reduceLeDiff, g2, putL_64]
          have hfl2 := range_keep hkj
          refine next _ _ _ _ (getH_same _ _ _) ?_ ?_ (fun A n e B q d h1 h2 => by cases h1; cases h2; show N1 ≠ N2; omega) (fun q hq3 => ?_) (by omega)
          · rw [hfl2, acc_len, acc_one]
            refine ⟨by simp, .inr ⟨N1, by omega, by omega, rfl, ?_⟩⟩
            rw [getH_ne _ (by omega), hk2 N1 (by omega) fun A n e h => ?_]
            · exact hA2
            · rcases hp.2 with ⟨_, h2⟩ | ⟨b2, _, h3, h2, _⟩
              · rw [h2] at h; cases h
              · rw [h2] at h; cases h; show b2 ≠ N1; omega
          · rw [hfl2, acc_len, List.map_append, List.map_append]
            refine ⟨by simp, .inr ⟨N2, by omega, by omega, rfl, ?_⟩⟩
            rw [getH_ne _ (by omega)]
            exact hB2
          · rw [getH_ne _ (by omega), hk2 q (by omega) (fun A n e h => by have := acc_lo hp h; omega), hK2 q hq3]
            exact hq q hq3
        · have hkj : keepB c j = false := by simpa using hkj
          have h3 := hkj
          unfold keepB at h3
          rw [Bool.or_eq_false_iff, decide_eq_false_iff_not, decide_eq_false_iff_not] at h3
          refine if_nor3 (by simp; omega) (by simp; omega) ?_
          refine next H' n' v p hg ?_ ?_ hvp hq hn
          · rw [range_drop hkj]; exact hv
          · rw [range_drop hkj]; exact hp
      · have hj' : ¬ (j : Int) < (ks.length : Int) := by omega
        have e64 : j = 64 := by omega
        subst e64
        simp (disch := first|omega|assumption) only [W0, oneCells, Yld.val, Nat.reduceAdd, Nat.reduceMul, Nat.reduceLeDiff, q0, hj']
        have hkl : keptL c ks = (List.range 64).filter (keepB c) := by unfold keptL; rw [if_pos h64]
        have hne2 : (List.range 64).filter (keepB c) ≠ [] := fun h => by
          have : 63 ∈ (List.range 64).filter (keepB c) := List.mem_filter.2 ⟨List.mem_range.2 (by omega), by simp [keepB]⟩
          rw [h] at this; cases this
        rw [← List.length_map (f := c)] at hp
        have made : ∀ {v : Value} {l : List Nat}, l ≠ [] → Acc (nx + 1 + 1 + 1) H' n' 1 v l.length (l.map kN) → NatsAt (fun j => j = nx + 1 + 1) v l H' n' := fun hl h => by
          rcases h.2 with ⟨h1, _⟩ | ⟨b, h1, h2, h3, h4⟩
          · exact absurd (List.length_eq_zero_iff.1 h1) hl
          · exact ⟨b, 1, h3, h2, by omega, h4⟩
        refine hfin _ _ _ ⟨rfl, hn, hq, v, p, hg, by rw [hkl]; exact made hne2 hv, by rw [hkl]; exact made (fun h => hne2 (List.map_eq_nil_iff.1 h)) hp⟩
    · have d64 : decide ((ks.length : Int) = 64) = false := by simp; omega
      simp (disch := first|omega|assumption) only [W0, oneCells, Yld.val, Nat.reduceAdd, Nat.reduceMul, Nat.reduceLeDiff, a0, d64]
      refine hfin _ _ _ ⟨rfl, Nat.le_refl _, fun _ _ => rfl, _, _, a2, ?_, ?_⟩
      · unfold keptL; rw [if_neg h64]; obtain ⟨q, sl, e, h1, _, h3⟩ := hV0; exact ⟨q, sl, e, by omega, by omega, by rw [x3.get q h1]; exact h3⟩
      · unfold keptL; rw [if_neg h64]; obtain ⟨q, sl, e, h1, _, h3⟩ := hP0; exact ⟨q, sl, by rw [List.length_map]; rw [List.length_map] at e; exact e, by omega, by omega, by rw [x3.get q h1]; exact h3⟩
  · rintro _ H6 n6 ⟨rfl, l6, k6, v, p, g6, hv6, hp6⟩
    have g1 := (k6 (nx + 1) (by omega)).trans a1
    have hne2 : keptL c ks ≠ [] := by
      unfold keptL
      by_cases h64 : ks.length = 64
      · rw [if_pos h64]
        intro h
        have : 63 ∈ (List.range 64).filter (keepB c) := List.mem_filter.2 ⟨List.mem_range.2 (by omega), by simp [keepB]⟩
        rw [h] at this; cases this
      · rw [if_neg h64]; exact hne
    have hkl : (keptL c ks).length ≤ 1000 := by
      unfold keptL
      by_cases h64 : ks.length = 64
      · rw [if_pos h64]; exact Nat.le_trans (List.length_filter_le _ _) (by rw [List.length_range]; omega)
      · rw [if_neg h64]; exact hl
    generalize keptL c ks = l at hv6 hp6 hne2 hkl
    obtain ⟨bv, rfl, hbv, hbv2, _⟩ := hv6.at
    obtain ⟨bp, rfl, hbp, hbp2, _⟩ := hp6.at
    simp (config := { maxSteps := 2000000 }) (disch := first|omega|assumption) only [W0, oneCells, Yld.val, Nat.reduceAdd, Nat.reduceMul, Nat.reduceLeDiff, g6, putL_61, dBsl_0]
    have hlp : 0 < l.length := List.length_pos_iff.2 hne2
    have hne3 : l.map c ≠ [] := fun h => hne2 (List.map_eq_nil_iff.1 h)
    have x6 : Ext H nx H6 n6 := ⟨by omega, fun j hj => by rw [k6 j (by omega)]; exact x3.get j hj⟩
    -- the numbers
    have hk7 : ∀ q, q < n6 → q ≠ nx + 1 + 1 → getH (hs (hs H6 (nx + 1 + 1) (some (.cells [.int .i64 0, .int .i64 ((i : Int) + 1), .int .i64 0, .slice (some ⟨bv, 0, none⟩) l.length l.length, .slice (some ⟨bp, 0, none⟩) (l.map c).length (l.map c).length, .bool false] 0))) n6 (some (.cells [] 0))) q = getH H6 q := fun q h1 h2 => by rw [getH_ne _ (by omega), getH_ne _ h2]
    have f7 : getH (hs (hs H6 (nx + 1 + 1) (some (.cells [.int .i64 0, .int .i64 ((i : Int) + 1), .int .i64 0, .slice (some ⟨bv, 0, none⟩) l.length l.length, .slice (some ⟨bp, 0, none⟩) (l.map c).length (l.map c).length, .bool false] 0))) n6 (some (.cells [] 0))) (nx + 1 + 1) = some (.cells [.int .i64 0, .int .i64 ((i : Int) + 1), .int .i64 0, .slice (some ⟨bv, 0, none⟩) l.length l.length, .slice (some ⟨bp, 0, none⟩) (l.map c).length (l.map c).length, .bool false] 0) := by simp (disch := omega) only [getH_ne, getH_same]
    have z7 : getH (hs (hs H6 (nx + 1 + 1) (some (.cells [.int .i64 0, .int .i64 ((i : Int) + 1), .int .i64 0, .slice (some ⟨bv, 0, none⟩) l.length l.length, .slice (some ⟨bp, 0, none⟩) (l.map c).length (l.map c).length, .bool false] 0))) n6 (some (.cells [] 0))) n6 = some (.cells [] 0) := getH_same _ _ _
    revert hk7 f7 z7
    generalize Go.Clo.hs _ n6 _ = K7
    intro hk7 f7 z7
    have hv7 : NatsAt (fun j => j = nx + 1 + 1) (.slice (some ⟨bv, 0, none⟩) l.length l.length) l K7 (n6 + 10) := hv6.keep (by omega) fun j h1 h2 => hk7 j h1 h2
    have hp7 : NatsAt (fun j => j = nx + 1 + 1) (.slice (some ⟨bp, 0, none⟩) (l.map c).length (l.map c).length) (l.map c) K7 (n6 + 10) := hp6.keep (by omega) fun j h1 h2 => hk7 j h1 h2
    rw [wApp_lit (size := 1) (bytes := 8) (n := 0) (c := []) (by omega) z7 (by rfl) (nats_src hv7 hne2) hlp (oneCells_kN _) (by omega) (by omega)]
    rw [List.nil_append, Nat.zero_add]
    have hk8 : ∀ q, q < n6 + 10 → getH (hs K7 (n6 + 10) (some (.cells (l.map kN) 1))) q = getH K7 q := fun q h1 => getH_ne _ (by omega)
    have z8 : getH (hs K7 (n6 + 10) (some (.cells (l.map kN) 1))) (n6 + 10) = some (.cells (l.map kN) 1) := getH_same _ _ _
    revert hk8 z8
    generalize Go.Clo.hs K7 (n6 + 10) _ = K8
    intro hk8 z8
    have f8 := (hk8 (nx + 1 + 1) (by omega)).trans f7
    simp (config := { maxSteps := 2000000 }) (disch := first|omega|assumption) only [W0, oneCells, Yld.val, Nat.reduceAdd, Nat.reduceMul, Nat.reduceLeDiff, f8, dBsl_z]
    have hA8 : Acc n6 (hs K8 (n6 + 6) (some (.cells [.int .i64 ((i : Int) + 1)] 0))) (n6 + 10 + 1) 1 (.slice (some ⟨n6 + 10, 0, none⟩) l.length l.length) l.length (l.map kN) := ⟨by simp, .inr ⟨n6 + 10, by omega, by omega, rfl, by rw [getH_ne _ (by omega)]; exact z8⟩⟩
    have hs8 : Src (hs K8 (n6 + 6) (some (.cells [.int .i64 ((i : Int) + 1)] 0))) 1 (.slice (some ⟨n6 + 6, 0, none⟩) 1 1) 1 [.int .i64 ((i : Int) + 1)] := src_new (getH_same _ _ _) rfl (by omega)
    have hk9 : ∀ q, q < n6 → getH (hs K8 (n6 + 6) (some (.cells [.int .i64 ((i : Int) + 1)] 0))) q = getH K7 q := fun q h1 => by rw [getH_ne _ (by omega), hk8 q (by omega)]
    revert hA8 hs8 hk9
    generalize Go.Clo.hs K8 (n6 + 6) _ = K9
    generalize hN9 : n6 + 10 + 1 = N9
    intro hA8 hs8 hk9
    have hb1 : (2 * (l.length + 1) + 1000) * 8 ≤ 281474976710656 := by omega
    have hb2 : l.length + 1 ≤ 1000000000 := by omega
    refine wApp_new (Nat.lt_succ_self 0) hA8 hs8 (Nat.lt_succ_self 0) rfl hb1 hb2 ?_
    intro Ka za hka
    have hka2 : ∀ q, q < n6 → getH Ka q = getH K7 q := fun q h1 => by rw [hka q (by omega) fun A n e h => by cases h; show n6 + 10 ≠ q; omega, hk9 q h1]
    have fa := (hka2 (nx + 1 + 1) (by omega)).trans f7
    simp (config := { maxSteps := 2000000 }) (disch := first|omega|assumption) only [W0, oneCells, Yld.val, Nat.reduceAdd, Nat.reduceMul, Nat.reduceLeDiff, fa, putL_63, dBsl_0, f8]
    -- the pins
    have hkb : ∀ q, q < N9 + 1 → q ≠ nx + 1 + 1 → getH (hs (hs Ka (nx + 1 + 1) (some (.cells [.int .i64 0, .int .i64 ((i : Int) + 1), .int .i64 0, .slice (some ⟨N9, 0, none⟩) (l.length + 1) (l.length + 1), .slice (some ⟨bp, 0, none⟩) (l.map c).length (l.map c).length, .bool false] 0))) (N9 + 1) (some (.cells [] 0))) q = getH Ka q := fun q h1 h2 => by rw [getH_ne _ (by omega), getH_ne _ h2]
    have fb : getH (hs (hs Ka (nx + 1 + 1) (some (.cells [.int .i64 0, .int .i64 ((i : Int) + 1), .int .i64 0, .slice (some ⟨N9, 0, none⟩) (l.length + 1) (l.length + 1), .slice (some ⟨bp, 0, none⟩) (l.map c).length (l.map c).length, .bool false] 0))) (N9 + 1) (some (.cells [] 0))) (nx + 1 + 1) = some (.cells [.int .i64 0, .int .i64 ((i : Int) + 1), .int .i64 0, .slice (some ⟨N9, 0, none⟩) (l.length + 1) (l.length + 1), .slice (some ⟨bp, 0, none⟩) (l.map c).length (l.map c).length, .bool false] 0) := by simp (disch := omega) only [getH_ne, getH_same]
    have zb : getH (hs (hs Ka (nx + 1 + 1) (some (.cells [.int .i64 0, .int .i64 ((i : Int) + 1), .int .i64 0, .slice (some ⟨N9, 0, none⟩) (l.length + 1) (l.length + 1), .slice (some ⟨bp, 0, none⟩) (l.map c).length (l.map c).length, .bool false] 0))) (N9 + 1) (some (.cells [] 0))) (N9 + 1) = some (.cells [] 0) := getH_same _ _ _
    revert hkb fb zb
    generalize Go.Clo.hs _ (N9 + 1) _ = Kb
    intro hkb fb zb
    have hpb : NatsAt (fun j => j = nx + 1 + 1) (.slice (some ⟨bp, 0, none⟩) (l.map c).length (l.map c).length) (l.map c) Kb (N9 + 1 + 1) := by
      obtain ⟨q, sl, e, h1, h2, h3⟩ := hp6
      refine ⟨q, sl, e, by omega, h2, ?_⟩
      rw [hkb q (by omega) h2, hka2 q h1, hk7 q h1 h2]
      exact h3
    have hlp2 : 0 < (l.map c).length := by rw [List.length_map]; exact hlp
    rw [wApp_lit (size := 1) (bytes := 8) (n := 0) (c := []) (by omega) zb (by rfl) (nats_src hpb hne3) hlp2 (oneCells_kN _) (by rw [List.length_map]; omega) (by rw [List.length_map]; omega)]
    rw [List.nil_append, Nat.zero_add, List.length_map]
    have hkc : ∀ q, q < N9 + 1 + 1 → getH (hs Kb (N9 + 1 + 1) (some (.cells ((l.map c).map kN) 1))) q = getH Kb q := fun q h1 => getH_ne _ (by omega)
    have zc : getH (hs Kb (N9 + 1 + 1) (some (.cells ((l.map c).map kN) 1))) (N9 + 1 + 1) = some (.cells ((l.map c).map kN) 1) := getH_same _ _ _
    revert hkc zc
    generalize Go.Clo.hs Kb (N9 + 1 + 1) _ = Kc
    intro hkc zc
    have hAc : Acc n6 (hs Kc (N9 + 1 + 1 + 1) (some (.cells [.int .i64 0] 0))) (N9 + 1 + 1 + 1 + 1) 1 (.slice (some ⟨N9 + 1 + 1, 0, none⟩) l.length l.length) l.length ((l.map c).map kN) := ⟨by simp, .inr ⟨N9 + 1 + 1, by omega, by omega, rfl, by rw [getH_ne _ (by omega)]; exact zc⟩⟩
    have hsc : Src (hs Kc (N9 + 1 + 1 + 1) (some (.cells [.int .i64 0] 0))) 1 (.slice (some ⟨N9 + 1 + 1 + 1, 0, none⟩) 1 1) 1 [.int .i64 0] := src_new (getH_same _ _ _) rfl (by omega)
    have hkd : ∀ q, q < N9 + 1 → getH (hs Kc (N9 + 1 + 1 + 1) (some (.cells [.int .i64 0] 0))) q = getH Kb q := fun q h1 => by rw [getH_ne _ (by omega), hkc q (by omega)]
    revert hAc hsc hkd
    generalize Go.Clo.hs Kc (N9 + 1 + 1 + 1) _ = Kd
    generalize hNd : N9 + 1 + 1 + 1 + 1 = Nd
    intro hAc hsc hkd
    refine wApp_new (Nat.lt_succ_self 0) hAc hsc (Nat.lt_succ_self 0) rfl hb1 hb2 ?_
    intro Ke ze hke
    have hke2 : ∀ q, q < N9 + 1 → getH Ke q = getH Kb q := fun q h1 => by rw [hke q (by omega) fun A n e h => by cases h; show N9 + 1 + 1 ≠ q; omega, hkd q h1]
    have fe := (hke2 (nx + 1 + 1) (by omega)).trans fb
    have ge : getH Ke (nx + 1) = some (.cells [.int .i64 0, .int .i64 0, .int .i64 0, .slice none 0 0, .slice none 0 0, .bool false] 0) := by rw [hke2 _ (by omega), hkb _ (by omega) (by omega), hka2 _ (by omega), hk7 _ (by omega) (by omega)]; exact g1
    simp (config := { maxSteps := 2000000 }) (disch := first|omega|assumption) only [W0, oneCells, Yld.val, Nat.reduceAdd, Nat.reduceMul, Nat.reduceLeDiff, fe, ge, putL_64, wLd6, cellP_6, putL_66]
    refine ⟨_, _, by rw [show ((i + 1 : Nat) : Int) = (i : Int) + 1 by omega], ⟨N9, 1, by rw [acc_len], by omega, fun h => by have := hAv _ h; omega, ?_⟩, ⟨Nd, 1, by simp, by omega, fun h => by have := hAv _ h; omega, ?_⟩, ?_⟩
    · rw [getH_ne _ (by omega), getH_ne _ (by omega), hke2 N9 (by omega), hkb N9 (by omega) (by omega), za, acc_one]
      rfl
    · rw [getH_ne _ (by omega), getH_ne _ (by omega), ze, acc_one]
      rfl
    · refine ((Ext.hs (H := H) (nx := nx) (m := Nd + 1) ⟨by omega, fun j hj => ?_⟩ (by omega)).hs (by omega))
      rw [hke2 j (by omega), hkb j (by omega) (by omega), hka2 j (by omega), hk7 j (by omega) (by omega)]
      exact x6.get j hj
end Go.Proofs.YtbmiedinclieaaaGreatDoor

namespace Go.Proofs.YtbmiedinclieaaaGreatDoor
open Go.Clo

/-- The two variables' blocks. -/
def VarB (x r : Nat) : Nat → Prop := fun j => j = x ∨ j = r
/-- After i batches: the blocks ex, er hold the engine and the reference; the versions below 41 are pinned c times each. -/
structure LI (C : Cl) (ex er i : Nat) (c : Nat → Nat) (H : Heap) (nx : Nat) : Prop where
  ne : ex ≠ er
  ltx : ex < nx
  ltr : er < nx
  st : ∃ (bb : Option Nat), (∀ b, bb = some b → ex < b) ∧ (∃ (S : List Value) (r : Nat) (m : Nat → Nat), getH H ex = some (.cells (eng S r i) 0) ∧ C.StoreAt (VarB ex er) bb i S H nx ∧ r < nx ∧ r ≠ ex ∧ r ≠ er ∧ (∀ b, bb = some b → r ≠ b) ∧ IntM H r (avail c i) (fun u => verV (m u) (c u)) ∧ ∀ v ∈ avail c i, C.DbAt (AvB (VarB ex er) bb) v (m v) H nx) ∧
    ∃ (V P : Value), getH H er = some (.cells (refC V P i) 0) ∧ NatsAt (AvB (VarB ex er) bb) V (avail c i) H nx ∧ NatsAt (AvB (VarB ex er) bb) P ((avail c i).map c) H nx
/-- The counts of the pins. -/
structure Cnt (c : Nat → Nat) (k i : Nat) : Prop where
  low : ∀ v, 41 ≤ v → c v = 0
  fut : ∀ v, i < v → c v = 0
  num : (pinned c).length ≤ k
  le : ∀ v, c v ≤ k
theorem Cnt.zero : Cnt (fun _ => 0) 0 0 := ⟨fun _ _ => rfl, fun _ _ => rfl, by rw [pinned_zero]; exact Nat.le_refl _, fun _ => Nat.le_refl _⟩
theorem Cnt.next {c : Nat → Nat} {k i : Nat} (h : Cnt c k i) : Cnt c k (i + 1) := ⟨h.low, fun v hv => h.fut v (by omega), h.num, h.le⟩
theorem Cnt.bump {c : Nat → Nat} {k i v : Nat} (h : Cnt c k i) (hv : v < 41) (hi : v ≤ i) : Cnt (bump c v) (k + 1) i := by
  refine ⟨fun u hu => ?_, fun u hu => ?_, Nat.le_trans (pinned_bump c v) (by have := h.num; omega), fun u => ?_⟩
  · unfold Go.Clo.bump; rw [if_neg (by omega)]; exact h.low u hu
  · unfold Go.Clo.bump; rw [if_neg (by omega)]; exact h.fut u hu
  · unfold Go.Clo.bump
    have := h.le u
    split
    · rename_i e; subst e; omega
    · omega
/-- The state stays when only other blocks change. -/
theorem LI.keep {C : Cl} {ex er i : Nat} {c : Nat → Nat} {H : Heap} {nx : Nat} (h : LI C ex er i c H nx) {H' : Heap} {nx' : Nat} (e : Ext H nx H' nx') : LI C ex er i c H' nx' := by
  obtain ⟨h1, h2, h3, bb, hb, ⟨S, r, m, a1, a2, a3, a4, a5, ar, a6, a7⟩, ⟨V, P, b1, b2, b3⟩⟩ := h
  have hl := e.le
  exact ⟨h1, by omega, by omega, bb, hb, ⟨S, r, m, by rw [e.get _ h2]; exact a1, C.store_e a2 e, by omega, a4, a5, ar, a6.ext a3 e, fun v hv => C.db_e (a7 v hv) e⟩, ⟨V, P, by rw [e.get _ h3]; exact b1, b2.ext e, b3.ext e⟩⟩
theorem avail_63 (c : Nat → Nat) {i : Nat} (h : (avail c i).length = 64) (hp : (pinned c).length ≤ 20) (hi : i ≤ 93) : avail c i = List.range 64 := by
  by_cases e : i ≤ 63
  · rw [avail_len_low e] at h
    have : i = 63 := by omega
    subst this
    exact avail_low (Nat.le_refl _)
  · rw [avail_len_high (by omega)] at h; omega
theorem keptL_next {c : Nat → Nat} {i : Nat} (hp : (pinned c).length ≤ 20) (hi : i ≤ 93) : keptL c (avail c i) = nextK c i := by
  unfold keptL nextK
  by_cases e : i = 63
  · subst e; rw [avail_len_low (Nat.le_refl _), if_pos rfl, if_pos rfl]
  · rw [if_neg e, if_neg]
    by_cases e2 : i ≤ 63
    · rw [avail_len_low e2]; omega
    · rw [avail_len_high (by omega)]; omega
/-- What stands in the two blocks after a batch makes the next state. -/
theorem LI.put {C : Cl} {ex er i : Nat} {c : Nat → Nat} {H : Heap} {nx : Nat} {S : List Value} {q : Nat} {m : Nat → Nat} {V P : Value} {Av : Nat → Prop} {bb : Option Nat} (hne : ex ≠ er) (hx : ex < nx) (hr : er < nx) (hAv : ∀ j, VarB ex er j → Av j) (hb : ∀ b, bb = some b → ex < b)
    (h1 : C.StoreAt Av bb i S H nx) (hq : q < nx) (hqx : q ≠ ex) (hqr : q ≠ er) (hqb : ∀ b, bb = some b → q ≠ b) (h2 : IntM H q (avail c i) (fun u => verV (m u) (c u))) (h3 : ∀ v ∈ avail c i, C.DbAt (AvB Av bb) v (m v) H nx) (h4 : NatsAt (AvB (VarB ex er) bb) V (avail c i) H nx) (h5 : NatsAt (AvB (VarB ex er) bb) P ((avail c i).map c) H nx) :
    LI C ex er i c (hs (hs H ex (some (.cells (eng S q i) 0))) er (some (.cells (refC V P i) 0))) nx := by
  have k : ∀ j, j < nx → ¬ VarB ex er j → getH (hs (hs H ex (some (.cells (eng S q i) 0))) er (some (.cells (refC V P i) 0))) j = getH H j := fun j _ hj => by
    unfold VarB at hj
    rw [getH_ne _ (fun e => hj (.inr e)), getH_ne _ (fun e => hj (.inl e))]
  have k2 : ∀ j, j < nx → ¬ AvB (VarB ex er) bb j → getH (hs (hs H ex (some (.cells (eng S q i) 0))) er (some (.cells (refC V P i) 0))) j = getH H j := fun j h hj => k j h fun g => hj (.inl g)
  refine ⟨hne, hx, hr, bb, hb, ⟨S, q, m, by rw [getH_ne _ hne, getH_same], C.store_ext (C.store_av h1 fun j hj => .inl (hAv j hj)) (Nat.le_refl _) k, hq, hqx, hqr, hqb, h2.same (by rw [getH_ne _ hqr, getH_ne _ hqx]), fun v hv => C.db_ext (C.db_av (h3 v hv) fun j hj => .inl (hj.imp (hAv j) id)) (Nat.le_refl _) k2⟩, ⟨V, P, getH_same _ _ _, h4.keep (Nat.le_refl _) k2, h5.keep (Nat.le_refl _) k2⟩⟩
end Go.Proofs.YtbmiedinclieaaaGreatDoor
