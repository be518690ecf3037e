/-
  Contracts: Drop of a view that is there; Define of a name that is not there.
-/
import Derived.Test.YtchmiblahedkcaaGreatDoorB25
import Derived.Test.YtchmiblahedkcaaGreatDoorB28
set_option linter.all false
namespace Go.Proofs.YtchmiblahedkcaaGreatDoor
open Go.Clo

theorem cut7 (l : List Value) (h : l.length = 7) : 0 + l.length ≤ 7 := by omega
set_option maxHeartbeats 1000000 in
theorem drop8 (m : Option Nat) (L : Value) (ks : List ByteArray) (s : ByteArray) (H : Heap) (nx : Nat) (hm : MapOf H nx L ks) (hl : ks.length ≤ 1000) (hn : ks.Nodup) (hin : s ∈ ks) : Ans Tryz.prog 8 [.agg ⟨[.map m, L]⟩, .string s] H nx fun r H' nx' =>
    ∃ q, nx ≤ q ∧ r = .tuple ⟨[.agg ⟨[.map m, .map (some q)]⟩, .int .i64 0]⟩ ∧ MapOf H' nx' (.map (some q)) (ks.filter fun z => !decide (z = s)) ∧ Ext H nx H' nx' := by
  have hm0 := hm
  rcases hm with ⟨rfl, rfl⟩ | ⟨r, es, c, rfl, hr, hg, hk, hv⟩
  · cases hin
  refine spec8 ?_
  unfold F8
  simp only [W1]
  have x1 : Ext H nx (hs H nx (some (.cells [.map m, .map (some r)] 0))) (nx + 1) := (Ext.refl _ _).new _ (Nat.le_refl _) (by omega)
  have x2 : Ext H nx (hs (hs H nx (some (.cells [.map m, .map (some r)] 0))) (nx + 1) (some (.cells [.map none, .map none] 0))) (nx + 1 + 1) := x1.new _ (by omega) (by omega)
  obtain ⟨e, he, hlk⟩ := wLk_hit (by rw [x2.get r hr]; exact hg) hk hin (.agg ⟨[.slice none 0 0, .int .i64 0, .string ⟨#[]⟩, .slice none 0 0, .slice none 0 0, .slice none 0 0, .nilIface]⟩)
  obtain ⟨l, hl1, hl2, hl3⟩ := viewV_inv (hv e he)
  rw [hl1] at hlk
  have hc7 := cut7 l hl2
  simp (disch := first|omega|assumption) only [W0, oneCells, Yld.val, Nat.reduceAdd, Nat.reduceMul, Nat.reduceLeDiff, hlk, hl2, hl3, cellP_lit2]
  have x3 := x2.new (m := nx + 1 + 1 + 1) (i := nx + 1 + 1) (some (.cells [.slice none 0 0, .int .i64 0, .string ⟨#[]⟩, .slice none 0 0, .slice none 0 0, .slice none 0 0, .nilIface] 0)) (by omega) (by omega)
  have x4 := x3.hs (i := nx + 1 + 1) (b := some (.cells (putL [.slice none 0 0, .int .i64 0, .string ⟨#[]⟩, .slice none 0 0, .slice none 0 0, .slice none 0 0, .nilIface] 0 l) 0)) (by omega)
  refine wCall_rule (copied22 m (.map (some r)) ks _ _ (hm0.ext x4) hl) ?_
  rintro _ H5 n5 ⟨q, es5, c5, rfl, hq1, hq2, hg5, hk5, hv5, x5⟩
  obtain ⟨es6, hsub, hk6, hdel⟩ := wDel_hit (nx := n5) hg5 hk5 hn hin
  have g0 : getH (hs H5 q (some (.map es6 c5))) nx = some (.cells [.map m, .map (some r)] 0) := by
    rw [getH_ne _ (by omega), x5.get nx (by omega)]
    simp (disch := omega) only [getH_ne, getH_same]
  have g1 : getH (hs H5 q (some (.map es6 c5))) (nx + 1) = some (.cells [.map none, .map none] 0) := by
    rw [getH_ne _ (by omega), x5.get (nx + 1) (by omega)]
    simp (disch := omega) only [getH_ne, getH_same]
  simp (disch := first|omega|assumption) only [W0, oneCells, Yld.val, Nat.reduceAdd, Nat.reduceMul, Nat.reduceLeDiff, hdel, g0, g1, wLd_1, cellP_12, wBuild_v2, putL_lit2, cellP_lit2]
  exact ⟨q, by omega, rfl, .inr ⟨q, es6, c5, rfl, hq2, by rw [getH_ne _ (by omega), getH_same], hk6, fun e he => hv5 e (hsub e he)⟩, ((x4.trans x5).hs (by omega)).hs (by omega)⟩

/-! Define. -/
theorem emb_ext {ρ : Nat → Nat} {H0 : Heap} {n0 : Nat} {H : Heap} {nx : Nat} {H' : Heap} {nx' : Nat} (h : Emb ρ H0 n0 H nx) (e : Ext H nx H' nx') : Emb ρ H0 n0 H' nx' :=
  h.step e.le fun i b hb => e.get _ (h.lt i (h.low hb))
/-- The names of a run are kept apart from a few. -/
def Far (ρ : Nat → Nat) (n a b : Nat) : Prop := ∀ i, i < n → ρ i < a ∨ b ≤ ρ i
theorem Far.new {ρ : Nat → Nat} {n a b n' nx : Nat} (h : Far ρ n a b) (hb : b ≤ nx) : Far (newρ ρ n nx) n' a b := fun i hi => by
  by_cases g : i < n
  · rw [newρ_old g]; exact h i g
  · rw [newρ_new (by omega)]; exact .inr (by omega)
theorem oneCells_app : ∀ (a b : List Value), oneCells (a ++ b) = (oneCells a && oneCells b)
  | [], b => rfl
  | v :: a, b => by
    have ih := oneCells_app a b
    cases v <;> first | rfl | exact ih
theorem oneCells_ren (ρ : Nat → Nat) : ∀ l : List Value, oneCells (renL ρ l) = oneCells l
  | [] => rfl
  | v :: l => by
    have ih := oneCells_ren ρ l
    rw [renL]
    cases v <;> (rw [ren]; first | rfl | exact ih)
theorem wBuild_view (p : List Value) (g : Value) (hp : p.length = 6) (hg : oneCells [g] = true) (k : VP) :
    wBuild [.slice none 0 0, .int .i64 0, .string ⟨#[]⟩, .slice none 0 0, .slice none 0 0, .slice none 0 0, .nilIface] [(0, 6), (6, 1)] [(0, .agg ⟨p⟩), (1, g)] k = k (.agg ⟨p ++ [g]⟩) := by
  match p, hp with
  | [a, b, c, d, e, f], _ =>
    cases g <;> first | exact spine_eq _ _ | cases hg
theorem keyS_of {s : ByteArray} {v : Value} {c : Nat} (h : s.size ≤ 1000) : keyS ⟨.string s, v, c⟩ = some s := by
  show cond (Nat.ble s.size 1000) (some s) none = some s
  rw [bltrue h]; rfl
theorem lowV_up {n : Nat} : ∀ {k : Nat} {v : Value}, lowV k n v = true → lowV (k + 1) n v = true := by
  intro k
  induction k with
  | zero => intro v h; cases h
  | succ k ih =>
    have arr : ∀ {x : Array Value}, x.toList.all (lowV k n) = true → x.toList.all (lowV (k + 1) n) = true := by
      intro x hx
      rw [List.all_eq_true] at hx ⊢
      exact fun v hv => ih (hx v hv)
    intro v hl
    cases v with
    | func fn x y => simp only [lowV, Bool.and_eq_true] at hl ⊢; exact ⟨arr hl.1, arr hl.2⟩
    | iface t v => simp only [lowV] at hl ⊢; exact ih hl
    | agg x => simp only [lowV] at hl ⊢; exact arr hl
    | tuple x => simp only [lowV] at hl ⊢; exact arr hl
    | chan c => simp only [lowV] at hl; cases hl
    | _ => exact hl
/-- The fixed query's value, where it lies. -/
noncomputable def qR (ρ : Nat → Nat) : Value := .agg ⟨[pt (ρ ch.n1), .int .i64 0, sE, pt (ρ (ch.n1 + 3)), .slice none 0 0]⟩
theorem qR_eq (ρ : Nat → Nat) : ren ρ (qV ch.n1 (ch.n1 + 3)) = qR ρ := by
  simp [qV, qR, pt, ren, renA, renL, renP, sE]
theorem dbR_eq (ρ : Nat → Nat) (m : Nat) : ren ρ (dbV m) = dbV (ρ m) := by simp [dbV, ren, renA, renL]
theorem qV_low : lowV 16 (ch.n1 + 4) (qV ch.n1 (ch.n1 + 3)) = true := by
  simp [qV, lowV, pt, sE, Nat.blt_eq]
theorem cellP_put6 (p : List Value) (hp : p.length = 6) (k : VP) : cellP (putL [.slice none 0 0, .int .i64 0, .string ⟨#[]⟩, .slice none 0 0, .slice none 0 0, .slice none 0 0] 0 p) 0 (some 6) k = k (.agg ⟨p⟩) := by
  rw [putL_all (by rw [hp]; rfl), ← hp]
  exact cellP_lit k
/-- What the fixed query's runs say of a heap that holds the fixed database and the query. -/
theorem plan_at {ρ : Nat → Nat} {H : Heap} {nx : Nat} (he : Emb ρ (Hq ch.H1 ch.n1) (ch.n1 + 4) H nx) {a b : Nat} (hf : Far ρ (ch.n1 + 4) a b) (hb : b ≤ nx) :
    ∃ ρ1, ∃ v1 H1 n1, CS Tryz.prog 24 [dbV (ρ ch.m)] H nx v1 H1 n1 ∧ Ext H nx H1 n1 ∧ ∃ v2 H2 n2, CS Tryz.prog 25 [.int .i64 1] H1 n1 v2 H2 n2 ∧ Ext H1 n1 H2 n2 ∧
      ∃ pl rf H3 n3, CS Tryz.prog 23 [qR ρ, v1, v2] H2 n2 (.tuple ⟨[.agg ⟨pl⟩, .agg ⟨rf⟩, .int .i64 0]⟩) H3 n3 ∧ Ext H2 n2 H3 n3 ∧ pl.length = 6 ∧ rf.length = 4 ∧ oneCells pl = true ∧ oneCells rf = true ∧ Emb ρ1 ch.H5 ch.n5 H3 n3 ∧ Far ρ1 ch.n5 a b ∧ ρ1 ch.m = ρ ch.m ∧ pl = renL ρ1 ch.pl := by
  have hm1 := ch_mlt
  have l3 := ch.a3.le
  have l4 := ch.a4.le
  obtain ⟨v1, H1, n1, c1, e1, x1, he1⟩ := stepA ch.c3 ch.a3 he (by simp only [List.all_cons, List.all_nil, Bool.and_true]; exact lowV_mono (by omega) 16 ch_low)
  have f1 : Far (newρ ρ (ch.n1 + 4) nx) ch.n3 a b := hf.new hb
  have b1 : b ≤ n1 := Nat.le_trans hb x1.le
  obtain ⟨v2, H2, n2, c2, e2, x2, he2⟩ := stepA ch.c4 ch.a4 he1 (by rfl)
  have f2 : Far (newρ (newρ ρ (ch.n1 + 4) nx) ch.n3 n1) ch.n4 a b := f1.new b1
  have b2 : b ≤ n2 := Nat.le_trans b1 x2.le
  obtain ⟨v3, H3, n3, c3, e3, x3, he3⟩ := stepA ch.c5 ch.a5 he2 (by
    simp only [List.all_cons, List.all_nil, Bool.and_true, Bool.and_eq_true]
    exact ⟨lowV_mono (by omega) 16 qV_low, lowV_mono l4 16 ch.a3.val, ch.a4.val⟩)
  have f3 : Far (newρ (newρ (newρ ρ (ch.n1 + 4) nx) ch.n3 n1) ch.n4 n2) ch.n5 a b := f2.new b2
  have hρ1 : ∀ i, i < ch.n1 + 4 → newρ ρ (ch.n1 + 4) nx i = ρ i := fun i hi => newρ_old hi
  have hρ2 : ∀ i, i < ch.n3 → newρ (newρ ρ (ch.n1 + 4) nx) ch.n3 n1 i = newρ ρ (ch.n1 + 4) nx i := fun i hi => newρ_old hi
  have hρ3 : ∀ i, i < ch.n4 → newρ (newρ (newρ ρ (ch.n1 + 4) nx) ch.n3 n1) ch.n4 n2 i = newρ (newρ ρ (ch.n1 + 4) nx) ch.n3 n1 i := fun i hi => newρ_old hi
  have q1 : ren (newρ (newρ ρ (ch.n1 + 4) nx) ch.n3 n1) (qV ch.n1 (ch.n1 + 3)) = qR ρ := by
    rw [ren_congr (ρ' := ρ) (n := ch.n1 + 4) (fun i hi => by rw [hρ2 i (by omega), hρ1 i hi]) 16 qV_low, qR_eq]
  have q2 : ren (newρ (newρ ρ (ch.n1 + 4) nx) ch.n3 n1) ch.sv = v1 := by
    rw [ren_congr (n := ch.n3) hρ2 16 ch.a3.val, e1]
  have q3 : renL ρ [dbV ch.m] = [dbV (ρ ch.m)] := by rw [renL, renL, dbR_eq]
  have q4 : renL (newρ ρ (ch.n1 + 4) nx) [.int .i64 1] = [.int .i64 1] := by rw [renL, renL, ren]
  have q5 : renL (newρ (newρ ρ (ch.n1 + 4) nx) ch.n3 n1) [qV ch.n1 (ch.n1 + 3), ch.sv, ch.one] = [qR ρ, v1, v2] := by rw [renL, renL, renL, renL, q1, q2, e2]
  rw [q3] at c1
  rw [q4] at c2
  rw [q5] at c3
  have q6 : v3 = .tuple ⟨[.agg ⟨renL (newρ (newρ (newρ ρ (ch.n1 + 4) nx) ch.n3 n1) ch.n4 n2) ch.pl⟩, .agg ⟨renL (newρ (newρ (newρ ρ (ch.n1 + 4) nx) ch.n3 n1) ch.n4 n2) ch.rf⟩, .int .i64 0]⟩ := by
    rw [e3]; simp [ren, renA, renL]
  rw [q6] at c3
  exact ⟨_, v1, H1, n1, c1, x1, v2, H2, n2, c2, x2, _, _, H3, n3, c3, x3, by rw [renL_length, ch.hpl], by rw [renL_length, ch.hrf], by rw [oneCells_ren, ch.o1], by rw [oneCells_ren, ch.o2], he3, f3,
    by rw [hρ3 _ (by omega), hρ2 _ (by omega), hρ1 _ (by omega)], rfl⟩
theorem run_at {ρ : Nat → Nat} {H : Heap} {nx : Nat} (he : Emb ρ ch.H5 ch.n5 H nx) : ∃ rows st H' nx', CS Tryz.prog 26 [.agg ⟨renL ρ ch.pl⟩, dbV (ρ ch.m)] H nx (.tuple ⟨[rows, st, .int .i64 0]⟩) H' nx' ∧ Ext H nx H' nx' ∧ oneCells [rows] = true := by
  have l3 := ch.a3.le
  have l4 := ch.a4.le
  have l5 := ch.a5.le
  have hm1 := ch_mlt
  have hv5 : ([.agg ⟨ch.pl⟩, .agg ⟨ch.rf⟩, .int .i64 0] : List Value).all (lowV 15 ch.n5) = true := ch.a5.val
  rw [List.all_cons, Bool.and_eq_true] at hv5
  obtain ⟨v6, H6, n6, c6, e6, x6, he6⟩ := stepA ch.c6 ch.a6 he (by
    simp only [List.all_cons, List.all_nil, Bool.and_true, Bool.and_eq_true]
    exact ⟨lowV_up hv5.1, lowV_mono (by omega) 16 ch_low⟩)
  have q3 : renL ρ [.agg ⟨ch.pl⟩, dbV ch.m] = [.agg ⟨renL ρ ch.pl⟩, dbV (ρ ch.m)] := by rw [renL, renL, renL, dbR_eq, ren, renA]
  rw [q3] at c6
  have q6 : v6 = .tuple ⟨[ren (newρ ρ ch.n5 nx) ch.rows, ren (newρ ρ ch.n5 nx) ch.st, .int .i64 0]⟩ := by rw [e6]; simp [ren, renA, renL]
  rw [q6] at c6
  refine ⟨_, _, H6, n6, c6, x6, ?_⟩
  have h := (viewV_iff.1 ch.o3).2
  rw [oneCells_app, Bool.and_eq_true] at h
  have := oneCells_ren (newρ ρ ch.n5 nx) [ch.rows]
  rw [renL, renL] at this
  rw [this]; exact h.2


/-- What Define answers, when the name is not there. -/
def DefQ (ρ : Nat → Nat) (M : Nat) (L : Value) (ks : List ByteArray) (s : ByteArray) (H : Heap) (nx : Nat) (r : Value) (H' : Heap) (nx' : Nat) : Prop := Ext H nx H' nx' ∧
      ((¬ NameOK s ∧ r = .tuple ⟨[.agg ⟨[.map (some M), L]⟩, .int .i64 7]⟩) ∨ (NameOK s ∧ 8 ≤ ks.length ∧ r = .tuple ⟨[.agg ⟨[.map (some M), L]⟩, .int .i64 11]⟩) ∨
        (NameOK s ∧ ks.length < 8 ∧ ∃ q, nx ≤ q ∧ r = .tuple ⟨[.agg ⟨[.map (some M), .map (some q)]⟩, .int .i64 0]⟩ ∧ MapOf H' nx' (.map (some q)) (ks ++ [s])))
theorem cellP_1of (x : Value) (l : List Value) (k : VP) : cellP (x :: l) 0 (some 1) k = k (.agg ⟨[x]⟩) := by rw [cellP_agg]; simp
set_option maxHeartbeats 4000000 in
theorem define10 {ρ : Nat → Nat} (L : Value) (ks : List ByteArray) (s : ByteArray) (H : Heap) (nx : Nat) (he : Emb ρ (Hq ch.H1 ch.n1) (ch.n1 + 4) H nx) (hm : MapOf H nx L ks) (hl : ks.length ≤ 1000) (hni : s ∉ ks) (hsz : s.size ≤ 1000) :
    Ans Tryz.prog 10 [.agg ⟨[.map (some (ρ ch.m)), L]⟩, .string s, qR ρ] H nx (DefQ ρ (ρ ch.m) L ks s H nx) := by
  refine spec10 ?_
  unfold F10
  generalize hQe : DefQ ρ (ρ ch.m) L ks s H nx = Q
  have hQ : ∀ r H' nx', DefQ ρ (ρ ch.m) L ks s H nx r H' nx' → Q r H' nx' := fun r H' nx' h => by rw [← hQe]; exact h
  clear hQe
  simp (maxSteps := 2000000) only [↓wFl_eq, ↓wFls_eq, ↓wIx_eq, ↓wIxs_eq, ↓wBox_eq, ↓wBsl_eq, ↓wMsl_eq, ↓wAl_eq, ↓Rt_eq, ↓cE_eq, ↓tA_eq, ↓tB_eq, ↓wK_eq, ↓forceN_eq, ↓forceV_eq, ↓hsK_eq, ↓wNm_eq, ↓wNew_eq, ↓i0_eq, ↓i1_eq, ↓bT_eq, ↓bF_eq, ↓la_eq, ↓lb_eq, true_and, and_true, or_false]
  have hL1 : oneCells [L] = true := by
    rcases hm with ⟨rfl, _⟩ | ⟨r, es, c, rfl, _⟩ <;> rfl
  have x1 : Ext H nx (hs H nx (some (.cells [.map (some (ρ ch.m)), L] 0))) (nx + 1) := (Ext.refl _ _).new _ (Nat.le_refl _) (by omega)
  have x2 := x1.new (m := nx + 1 + 1) (i := nx + 1) (some (.cells [pt (ρ ch.n1), .int .i64 0, sE, pt (ρ (ch.n1 + 3)), .slice none 0 0] 0)) (by omega) (by omega)
  have x3 := x2.new (m := nx + 1 + 1 + 1) (i := nx + 1 + 1) (some (.cells [.map none, .map none] 0)) (by omega) (by omega)
  unfold qR pt sE
  unfold pt sE at x3
  simp (disch := first|omega|assumption) only [W0, oneCells, Yld.val, Nat.reduceAdd, Nat.reduceMul, Nat.reduceLeDiff, hL1]
  refine wCall_rule (catalog37 s _ _ (by omega)) ?_
  rintro _ _ _ ⟨⟨c, rfl, hc⟩, rfl, rfl⟩
  cases c with
  | false =>
    simp (disch := first|omega|assumption) only [W0, oneCells, Yld.val, Nat.reduceAdd, Nat.reduceMul, Nat.reduceLeDiff, hL1, cellP_lit2, putL_lit2]
    exact hQ _ _ _ ⟨x3.hs (by omega), .inl ⟨fun h => (by have := hc.2 h; cases this), rfl⟩⟩
  | true =>
    have hok := hc.1 rfl
    have x4 := x3.new (m := nx + 1 + 1 + 1 + 1) (i := nx + 1 + 1 + 1) (some (.cells [.slice none 0 0, .int .i64 0, .string ⟨#[]⟩, .slice none 0 0, .slice none 0 0, .slice none 0 0, .nilIface] 0)) (by omega) (by omega)
    have x5 := x4.hs (i := nx + 1 + 1 + 1) (b := some (.cells [.slice none 0 0, .int .i64 0, .string ⟨#[]⟩, .slice none 0 0, .slice none 0 0, .slice none 0 0, .nilIface] 0)) (by omega)
    simp (disch := first|omega|assumption) only [W0, oneCells, Yld.val, Nat.reduceAdd, Nat.reduceMul, Nat.reduceLeDiff, hL1, wLk_miss (hm.ext x3) hni, putL_all]
    revert x5
    generalize hHf : Go.Clo.hs _ _ _ = Hf
    intro x5
    have g0 : getH Hf nx = some (.cells [.map (some (ρ ch.m)), L] 0) := by rw [← hHf]; simp (disch := omega) only [getH_ne, getH_same]
    have g1 : getH Hf (nx + 1) = some (.cells [pt (ρ ch.n1), .int .i64 0, sE, pt (ρ (ch.n1 + 3)), .slice none 0 0] 0) := by rw [← hHf]; simp (disch := omega) only [getH_ne, getH_same]; rfl
    have g2 : getH Hf (nx + 1 + 1) = some (.cells [.map none, .map none] 0) := by rw [← hHf]; simp (disch := omega) only [getH_ne, getH_same]
    clear hHf x1 x2 x3 x4
    rw [wLen_views (hm.ext x5)]
    by_cases h8 : 8 ≤ ks.length
    · have h8' : (8 : Int) ≤ (ks.length : Int) := by omega
      simp (disch := first|omega|assumption) only [W0, oneCells, Yld.val, Nat.reduceAdd, Nat.reduceMul, Nat.reduceLeDiff, h8', g0, g2, cellP_lit2, putL_lit2, hL1]
      exact hQ _ _ _ ⟨x5.hs (by omega), .inr (.inl ⟨hok, h8, rfl⟩)⟩
    · have h8' : ¬ (8 : Int) ≤ (ks.length : Int) := by omega
      simp (disch := first|omega|assumption) only [W0, oneCells, Yld.val, Nat.reduceAdd, Nat.reduceMul, Nat.reduceLeDiff, h8', wLd_5, g1, cellP_lit5, wLd_1, g0, cellP_12]
      have x6 : Ext H nx Hf (nx + 1 + 1 + 1 + 1 + 15) := x5.more (by omega)
      obtain ⟨ρ1, v1, H1, n1, c1, y1, v2, H2, n2, c2, y2, pl, rf, H3, n3, c3, y3, hpl, hrf, op, or_, he3, f3, hm3, hplr⟩ := plan_at (emb_ext he x6) (a := nx) (b := nx + 1 + 1 + 1 + 1 + 15) (fun i hi => .inl (he.lt i hi)) (Nat.le_refl _)
      refine wCall_rule (Q := fun v H' nx' => v1 = v ∧ H1 = H' ∧ n1 = nx') ⟨_, _, _, c1, rfl, rfl, rfl⟩ ?_
      rintro _ _ _ ⟨rfl, rfl, rfl⟩
      refine wCall_rule (Q := fun v H' nx' => v2 = v ∧ H2 = H' ∧ n2 = nx') ⟨_, _, _, c2, rfl, rfl, rfl⟩ ?_
      rintro _ _ _ ⟨rfl, rfl, rfl⟩
      refine wCall_rule (Q := fun v H' nx' => v = .tuple ⟨[.agg ⟨pl⟩, .agg ⟨rf⟩, .int .i64 0]⟩ ∧ H3 = H' ∧ n3 = nx') ⟨_, _, _, c3, rfl, rfl, rfl⟩ ?_
      rintro _ _ _ ⟨rfl, rfl, rfl⟩
      have b1 := y1.le
      have b2 := y2.le
      have b3 := y3.le
      have g1a : getH H1 (nx + 1) = some (.cells [pt (ρ ch.n1), .int .i64 0, sE, pt (ρ (ch.n1 + 3)), .slice none 0 0] 0) := by rw [y1.get _ (by omega)]; exact g1
      have g1b : getH H2 (nx + 1) = some (.cells [pt (ρ ch.n1), .int .i64 0, sE, pt (ρ (ch.n1 + 3)), .slice none 0 0] 0) := by rw [y2.get _ (by omega)]; exact g1a
      have y : Ext Hf (nx + 1 + 1 + 1 + 1 + 15) H3 n3 := (y1.trans y2).trans y3
      have k0 : getH H3 nx = some (.cells [.map (some (ρ ch.m)), L] 0) := by rw [y.get _ (by omega)]; exact g0
      have k2 : getH H3 (nx + 1 + 1) = some (.cells [.map none, .map none] 0) := by rw [y.get _ (by omega)]; exact g2
      simp (disch := first|omega|assumption) only [W0, oneCells, Yld.val, Nat.reduceAdd, Nat.reduceMul, Nat.reduceLeDiff, hpl, hrf, op, or_, g1a, g1b, cellP_lit5, eq_self]
      have x7 : Ext H nx H3 n3 := x6.trans y
      have hfar : ∀ i b, getH ch.H5 i = some b → ρ1 i < nx ∨ nx + 1 + 1 + 1 + 1 + 15 ≤ ρ1 i := fun i b hb => f3 i (he3.low hb)
      generalize hHg : Go.Clo.hs _ _ _ = Hg
      have m0 : getH Hg nx = some (.cells [.map (some (ρ ch.m)), L] 0) := by rw [← hHg]; simp (disch := omega) only [getH_ne]; exact k0
      have m2 : getH Hg (nx + 1 + 1) = some (.cells [.map none, .map none] 0) := by rw [← hHg]; simp (disch := omega) only [getH_ne]; exact k2
      have m3 : getH Hg (nx + 1 + 1 + 1 + 1 + 10) = some (.cells (putL [.slice none 0 0, .int .i64 0, .string ⟨#[]⟩, .slice none 0 0, .slice none 0 0, .slice none 0 0] 0 pl) 0) := by rw [← hHg]; simp (disch := omega) only [getH_ne, getH_same]
      have x8 : Ext H nx Hg n3 := by rw [← hHg]; exact (((x7.hs (by omega)).hs (by omega)).hs (by omega)).hs (by omega)
      have he4 : Emb ρ1 ch.H5 ch.n5 Hg n3 := he3.step (Nat.le_refl _) fun i b hb => by
        have := hfar i b hb
        rw [← hHg]
        simp (disch := omega) only [getH_ne]
      clear hHg g0 g1 g2 g1a g1b
      have dz : decide ((0 : Int) ≠ 0) = false := rfl
      obtain ⟨rows, st, H5, n5, c6, y6, ho⟩ := run_at he4
      rw [← hplr, hm3] at c6
      simp (disch := first|omega|assumption) only [W0, oneCells, Yld.val, Nat.reduceAdd, Nat.reduceMul, Nat.reduceLeDiff, wLd_6, m3, cellP_put6 pl hpl, m0, k0, cellP_12, dz]
      refine wCall_rule (Q := fun v H' nx' => v = .tuple ⟨[rows, st, .int .i64 0]⟩ ∧ H5 = H' ∧ n5 = nx') ⟨_, _, _, c6, rfl, rfl, rfl⟩ ?_
      rintro _ _ _ ⟨rfl, rfl, rfl⟩
      have b6 := y6.le
      have p0 : getH H5 nx = some (.cells [.map (some (ρ ch.m)), L] 0) := by rw [y6.get _ (by omega)]; exact m0
      simp (disch := first|omega|assumption) only [W0, oneCells, Yld.val, Nat.reduceAdd, Nat.reduceMul, Nat.reduceLeDiff, p0, cellP_lit2, dz]
      have x9 := x8.trans y6
      refine wCall_rule (copied22 (some (ρ ch.m)) L ks _ _ (hm.ext x9) hl) ?_
      rintro _ H7 n7 ⟨q, es7, c7, rfl, hq1, hq2, hg7, hk7, hv7, y7⟩
      have r0 : getH H7 nx = some (.cells [.map (some (ρ ch.m)), L] 0) := by rw [y7.get _ (by omega)]; exact p0
      have r2 : getH H7 (nx + 1 + 1) = some (.cells [.map none, .map none] 0) := by rw [y7.get _ (by omega), y6.get _ (by omega)]; exact m2
      have r3 : getH H7 (nx + 1 + 1 + 1 + 1 + 10) = some (.cells (putL [.slice none 0 0, .int .i64 0, .string ⟨#[]⟩, .slice none 0 0, .slice none 0 0, .slice none 0 0] 0 pl) 0) := by rw [y7.get _ (by omega), y6.get _ (by omega)]; exact m3
      obtain ⟨c', hupd⟩ := wUpd_miss (nx := n7) hg7 hk7 hni (.agg ⟨pl ++ [rows]⟩)
      have s0 : getH (Go.Clo.hs H7 q (some (.map (es7 ++ [⟨.string s, .agg ⟨pl ++ [rows]⟩, c7⟩]) c'))) nx = some (.cells [.map (some (ρ ch.m)), L] 0) := by rw [getH_ne _ (by omega)]; exact r0
      have s2 : getH (Go.Clo.hs H7 q (some (.map (es7 ++ [⟨.string s, .agg ⟨pl ++ [rows]⟩, c7⟩]) c'))) (nx + 1 + 1) = some (.cells [.map none, .map none] 0) := by rw [getH_ne _ (by omega)]; exact r2
      simp (disch := first|omega|assumption) only [W0, oneCells, Yld.val, Nat.reduceAdd, Nat.reduceMul, Nat.reduceLeDiff, wLd_6, r3, cellP_put6 pl hpl, wBuild_view pl rows hpl ho, hupd, s0, s2, cellP_12, wBuild_v2, putL_lit2, cellP_lit2]
      refine hQ _ _ _ ⟨((x9.trans y7).hs (by omega)).hs (by omega), .inr (.inr ⟨hok, by omega, q, by omega, rfl, .inr ⟨q, _, c', rfl, hq2, by rw [getH_ne _ (by omega), getH_same], keysS_app hk7 (keyS_of hsz), fun e he => ?_⟩⟩)⟩
      rcases List.mem_append.1 he with h | h
      · exact hv7 e h
      · rw [List.mem_singleton.1 h]
        exact viewV_iff.2 ⟨by rw [List.length_append, hpl]; rfl, by rw [oneCells_app, op, ho]; rfl⟩
end Go.Proofs.YtchmiblahedkcaaGreatDoor
