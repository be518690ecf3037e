/-
  The chain of the fixed query's runs, taken apart; a run of it beside another heap.
-/
import Derived.Test.YtchmiblahedkcaaGreatDoorB27
import Derived.Test.YtchmiblahedkcaaGreatDoorB9
import Derived.Test.YtchmiblahedkcaaGreatDoorB12
set_option linter.all false
namespace Go.Proofs.YtchmiblahedkcaaGreatDoor
open Go.Clo

structure Ch where
  m : Nat
  H1 : Heap
  n1 : Nat
  c1 : CS Tryz.prog 5 [pt 1] Ha 2 (.tuple ⟨[dbV m, .int .i64 0]⟩) H1 n1
  a1 : Adds Ha 2 (.tuple ⟨[dbV m, .int .i64 0]⟩) H1 n1
  sv : Value
  H3 : Heap
  n3 : Nat
  c3 : CS Tryz.prog 24 [dbV m] (Hq H1 n1) (n1 + 4) sv H3 n3
  a3 : Adds (Hq H1 n1) (n1 + 4) sv H3 n3
  one : Value
  H4 : Heap
  n4 : Nat
  c4 : CS Tryz.prog 25 [.int .i64 1] H3 n3 one H4 n4
  a4 : Adds H3 n3 one H4 n4
  pl : List Value
  rf : List Value
  hpl : pl.length = 6
  hrf : rf.length = 4
  H5 : Heap
  n5 : Nat
  c5 : CS Tryz.prog 23 [qV n1 (n1 + 3), sv, one] H4 n4 (.tuple ⟨[.agg ⟨pl⟩, .agg ⟨rf⟩, .int .i64 0]⟩) H5 n5
  a5 : Adds H4 n4 (.tuple ⟨[.agg ⟨pl⟩, .agg ⟨rf⟩, .int .i64 0]⟩) H5 n5
  o1 : oneCells pl = true
  o2 : oneCells rf = true
  rows : Value
  st : Value
  H6 : Heap
  n6 : Nat
  c6 : CS Tryz.prog 26 [.agg ⟨pl⟩, dbV m] H5 n5 (.tuple ⟨[rows, st, .int .i64 0]⟩) H6 n6
  a6 : Adds H5 n5 (.tuple ⟨[rows, st, .int .i64 0]⟩) H6 n6
  o3 : viewV (.agg ⟨pl ++ [rows]⟩) = true
theorem fin1_inv {v : Value} {H : Heap} {n : Nat} (h : fin1 v H n = true) : ∃ m, v = .tuple ⟨[dbV m, .int .i64 0]⟩ ∧
    stp 24 [dbV m] (Hq H n) (n + 4) (fun sv H' n' => stp 25 [.int .i64 1] H' n' fun one H'' n'' => stp 23 [qV n (n + 3), sv, one] H'' n'' (fin5 m)) = true := by
  unfold fin1 at h
  split at h
  · rename_i m
    rw [addQ_eq] at h
    exact ⟨m, rfl, h⟩
  · cases h
theorem fin5_inv {m : Nat} {v : Value} {H : Heap} {n : Nat} (h : fin5 m v H n = true) : ∃ pl rf : List Value, v = .tuple ⟨[.agg ⟨pl⟩, .agg ⟨rf⟩, .int .i64 0]⟩ ∧ pl.length = 6 ∧ rf.length = 4 ∧ oneCells pl = true ∧ oneCells rf = true ∧
    stp 26 [.agg ⟨pl⟩, dbV m] H n (fun r H n => match r with
      | .tuple ⟨[rows, st, .int .i64 (.ofNat 0)]⟩ => viewV (.agg ⟨pl ++ [rows]⟩)
      | _ => false) = true := by
  have h0 := h
  clear h
  unfold fin5 at h0
  split at h0
  · rename_i a b c d e f g h' i j
    cases hc : (oneCells [a, b, c, d, e, f] && oneCells [g, h', i, j]) with
    | false => rw [hc] at h0; cases h0
    | true =>
      rw [hc] at h0
      rw [Bool.and_eq_true] at hc
      simp only [cond_true] at h0
      exact ⟨[a, b, c, d, e, f], [g, h', i, j], rfl, rfl, rfl, hc.1, hc.2, h0⟩
  · cases h0
theorem ch_ex : Nonempty Ch := by
  have h := chain_true
  unfold chain at h
  obtain ⟨v, H1, n1, c1, a1, k1⟩ := stepC_inv mixed namesOK orc_ok dok_ok h
  obtain ⟨m, e1, k2⟩ := fin1_inv k1
  subst e1
  obtain ⟨sv, H3, n3, c3, a3, k3⟩ := stepC_inv mixed namesOK orc_ok dok_ok k2
  obtain ⟨one, H4, n4, c4, a4, k4⟩ := stepC_inv mixed namesOK orc_ok dok_ok k3
  obtain ⟨v5, H5, n5, c5, a5, k5⟩ := stepC_inv mixed namesOK orc_ok dok_ok k4
  obtain ⟨pl, rf, e5, hpl, hrf, o1, o2, k6⟩ := fin5_inv k5
  subst e5
  obtain ⟨v6, H6, n6, c6, a6, k7⟩ := stepC_inv mixed namesOK orc_ok dok_ok k6
  split at k7
  · exact ⟨⟨m, H1, n1, c1, a1, sv, H3, n3, c3, a3, one, H4, n4, c4, a4, pl, rf, hpl, hrf, H5, n5, c5, a5, o1, o2, _, _, H6, n6, c6, a6, k7⟩⟩
  · cases k7
noncomputable def ch : Ch := Classical.choice ch_ex

/-- The names that are given anew are those of a run. -/
theorem newρ_old {ρ : Nat → Nat} {n0 nx i : Nat} (h : i < n0) : newρ ρ n0 nx i = ρ i := if_pos h
theorem newρ_new {ρ : Nat → Nat} {n0 nx i : Nat} (h : n0 ≤ i) : newρ ρ n0 nx i = nx + (i - n0) := if_neg (by omega)
theorem stepA {f : FuncId} {args : List Value} {H0 : Heap} {n0 : Nat} {v : Value} {H1 : Heap} {n1 : Nat} {ρ : Nat → Nat} {H : Heap} {nx : Nat} (hcs : CS Tryz.prog f args H0 n0 v H1 n1) (ha : Adds H0 n0 v H1 n1) (he : Emb ρ H0 n0 H nx)
    (hl : args.all (lowV 16 n0) = true) : Ans Tryz.prog f (renL ρ args) H nx fun r H' nx' => r = ren (newρ ρ n0 nx) v ∧ Ext H nx H' nx' ∧ Emb (newρ ρ n0 nx) H1 n1 H' nx' := by
  obtain ⟨H', nx', h1, h2, h3, h4⟩ := Adds.emb hcs ha he hl
  exact ⟨_, _, _, h1, rfl, ⟨h2, h3⟩, h4⟩
theorem ch_low : lowV 16 ch.n1 (dbV ch.m) = true := by
  have h := ch.a1.val
  simp only [lowV, List.all_cons, Bool.and_eq_true] at h
  exact lowV_mono (Nat.le_refl _) 16 (by simpa [dbV, lowV] using h.1)
theorem ch_mlt : ch.m < ch.n1 := by simpa [dbV, lowV, Nat.blt_eq] using ch_low
end Go.Proofs.YtchmiblahedkcaaGreatDoor
