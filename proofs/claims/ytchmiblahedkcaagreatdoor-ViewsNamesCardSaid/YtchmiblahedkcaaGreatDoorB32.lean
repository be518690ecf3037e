/-
  The law: the fixed database and the fixed query, made.
-/
import Derived.Test.YtchmiblahedkcaaGreatDoorB29
import Derived.Test.YtchmiblahedkcaaGreatDoorB30
import Derived.Test.YtchmiblahedkcaaGreatDoorB31
set_option linter.all false
namespace Go.Proofs.YtchmiblahedkcaaGreatDoor
open Go.Clo

theorem dBsl_i1 (k : List Value → Prop) : dBsl 1 1 [.int .i64 0] [(0, .int .i64 1)] k = k [.int .i64 1] := by rw [dBsl_eq]; exact if_pos rfl
theorem dBsl_r (s : ByteArray) (A : Option Addr) (n c : Nat) (k : List Value → Prop) : dBsl 1 2 [.string ⟨#[]⟩, .slice none 0 0] [(0, .agg ⟨[.string s, .slice A n c]⟩)] k = k [.string s, .slice A n c] := by rw [dBsl_eq]; exact if_pos rfl
theorem dBsl_x (s : ByteArray) (k : List Value → Prop) : dBsl 1 1 [.string ⟨#[]⟩] [(0, .string s)] k = k [.string s] := by rw [dBsl_eq]; exact if_pos rfl
theorem dBsl_t (s z : ByteArray) (a b : Int) (k : List Value → Prop) : dBsl 1 4 [.string ⟨#[]⟩, .int .i64 0, .int .i64 0, .string ⟨#[]⟩] [(0, .agg ⟨[.string s, .int .i64 a, .int .i64 b, .string z]⟩)] k = k [.string s, .int .i64 a, .int .i64 b, .string z] := by rw [dBsl_eq]; exact if_pos rfl
theorem dBsl_a (x : Bool) (s : ByteArray) (A : Option Addr) (n c : Nat) (k : List Value → Prop) : dBsl 1 3 [.bool false, .string ⟨#[]⟩, .slice none 0 0] [(0, .agg ⟨[.bool x, .string s, .slice A n c]⟩)] k = k [.bool x, .string s, .slice A n c] := by rw [dBsl_eq]; exact if_pos rfl
theorem dBsl_q (A B : Option Addr) (n c m d : Nat) (k : List Value → Prop) : dBsl 1 2 [.slice none 0 0, .slice none 0 0] [(0, .agg ⟨[.slice A n c, .slice B m d]⟩)] k = k [.slice A n c, .slice B m d] := by rw [dBsl_eq]; exact if_pos rfl
theorem wBuild_r (s : ByteArray) (A : Option Addr) (n c : Nat) (k : VP) : wBuild [.string ⟨#[]⟩, .slice none 0 0] [(0, 1), (1, 1)] [(0, .string s), (1, .slice A n c)] k = k (.agg ⟨[.string s, .slice A n c]⟩) := spine_eq _ _
theorem wBuild_t (s : ByteArray) (k : VP) : wBuild [.string ⟨#[]⟩, .int .i64 0, .int .i64 0, .string ⟨#[]⟩] [(0, 1), (1, 3)] [(0, .string s)] k = k (.agg ⟨[.string s, .int .i64 0, .int .i64 0, .string ⟨#[]⟩]⟩) := spine_eq _ _
theorem wBuild_a (s : ByteArray) (A : Option Addr) (n c : Nat) (k : VP) : wBuild [.bool false, .string ⟨#[]⟩, .slice none 0 0] [(0, 1), (1, 1), (2, 1)] [(1, .string s), (2, .slice A n c)] k = k (.agg ⟨[.bool false, .string s, .slice A n c]⟩) := spine_eq _ _
theorem wBuild_q (A : Option Addr) (n c : Nat) (k : VP) : wBuild [.slice none 0 0, .slice none 0 0] [(0, 1), (1, 1)] [(0, .slice A n c)] k = k (.agg ⟨[.slice A n c, .slice none 0 0]⟩) := spine_eq _ _
theorem wBuild_z (A B : Option Addr) (n c m d : Nat) (k : VP) : wBuild [.slice none 0 0, .int .i64 0, .string ⟨#[]⟩, .slice none 0 0, .slice none 0 0] [(0, 1), (1, 1), (2, 1), (3, 1), (4, 1)] [(0, .slice A n c), (3, .slice B m d)] k = k (.agg ⟨[.slice A n c, .int .i64 0, .string ⟨#[]⟩, .slice B m d, .slice none 0 0]⟩) := spine_eq _ _
/-- The schema, where it lies. -/
theorem emb_schema {H : Heap} {nx a b : Nat} (ha : a < nx) (hb : b < nx) (hne : a ≠ b) (ga : getH H a = some (.cells [.int .i64 1] 0)) (gb : getH H b = some (.cells [sR, pt a] 0)) :
    ∃ ρ, ρ 1 = b ∧ Emb ρ Ha 2 H nx := by
  have e0 := Emb.nil H nx
  have e1 := e0.add (j := a) ha (fun i hi => by omega) (b := .cells [.int .i64 1] 0) (by rfl) (by rw [ga]; simp [renB, renL, ren])
  have e2 := e1.add (j := b) hb (fun i hi => by
    have : i = 0 := by omega
    subst this
    rw [addρ_same]; exact hne) (b := .cells [sR, pt 0] 0) (by simp [lowB, lowV, sR, pt]) (by rw [gb]; simp [renB, renL, ren, sR, pt, renP, addρ_same])
  exact ⟨_, addρ_same _ _ _, e2⟩
/-- The query, where it lies. -/
theorem emb_query {ρ : Nat → Nat} {H0 : Heap} {n0 : Nat} {H : Heap} {nx a b c d : Nat} (he : Emb ρ H0 n0 H nx) (hf : Far ρ n0 a (d + 1)) (h1 : a < b) (h2 : b < c) (h3 : c < d) (h4 : d < nx) (ga : getH H a = some q0) (gb : getH H b = some q1) (gc : getH H c = some (q2 b)) (gd : getH H d = some (q3 c)) :
    ∃ ρ', ρ' n0 = a ∧ ρ' (n0 + 3) = d ∧ (∀ i, i < n0 → ρ' i = ρ i) ∧ Emb ρ' (Hq H0 n0) (n0 + 4) H nx := by
  have e1 := he.add (j := a) (by omega) (fun i hi => by have := hf i hi; omega) (b := q0) (by rfl) (by rw [ga]; simp [q0, renB, renL, ren, sX])
  have e2 := e1.add (j := b) (by omega) (fun i hi => by
    by_cases g : i = n0
    · subst g; rw [addρ_same]; omega
    · rw [addρ_lt _ (by omega)]; have := hf i (by omega); omega) (b := q1) (by rfl) (by rw [gb]; simp [q1, renB, renL, ren, sX, sE])
  have e3 := e2.add (j := c) (by omega) (fun i hi => by
    by_cases g : i = n0 + 1
    · subst g; rw [addρ_same]; omega
    · rw [addρ_lt _ (by omega)]
      by_cases g2 : i = n0
      · subst g2; rw [addρ_same]; omega
      · rw [addρ_lt _ (by omega)]; have := hf i (by omega); omega) (b := q2 (n0 + 1)) (by simp [lowB, q2, lowV, sR, pt, Nat.blt_eq]) (by rw [gc]; simp [q2, renB, renL, ren, sR, pt, renP, addρ_same])
  have e4 := e3.add (j := d) (by omega) (fun i hi => by
    by_cases g : i = n0 + 2
    · subst g; rw [addρ_same]; omega
    · rw [addρ_lt _ (by omega)]
      by_cases g1 : i = n0 + 1
      · subst g1; rw [addρ_same]; omega
      · rw [addρ_lt _ (by omega)]
        by_cases g2 : i = n0
        · subst g2; rw [addρ_same]; omega
        · rw [addρ_lt _ (by omega)]; have := hf i (by omega); omega) (b := q3 (n0 + 2)) (by simp [lowB, q3, lowV, pt, Nat.blt_eq]) (by rw [gd]; simp [q3, renB, renL, ren, pt, renP, addρ_same])
  refine ⟨_, ?_, addρ_same _ _ _, fun i hi => ?_, e4⟩
  · rw [addρ_lt _ (by omega), addρ_lt _ (by omega), addρ_lt _ (by omega), addρ_same]
  · rw [addρ_lt _ (by omega), addρ_lt _ (by omega), addρ_lt _ (by omega), addρ_lt _ hi]

theorem putL_lit1 (a x : Value) : putL [a] 0 [x] = [x] := rfl
theorem putL_lit5 (a b c d e x y z u v : Value) : putL [a, b, c, d, e] 0 [x, y, z, u, v] = [x, y, z, u, v] := rfl
/-! Sorted rows. -/
theorem sort_uniq {a b : List ByteArray} (ha : a.Pairwise leA) (hb : b.Pairwise leA) (h : a.Perm b) : a = b :=
  List.Perm.eq_of_pairwise (le := leA) (fun x y _ _ h1 h2 => bytes_inj (List.le_antisymm h1 h2)) ha hb h
theorem sort_ins (ks : List ByteArray) (s : ByteArray) : sortB (ks ++ [s]) = insB s (sortB ks) := by
  refine sort_uniq (sortB_sorted _) (insB_sorted s _ (sortB_sorted ks)) ?_
  refine (sortB_perm _).trans ?_
  refine List.perm_append_comm.trans ?_
  exact ((sortB_perm ks).symm.cons s).trans (insB_perm s _).symm
theorem sort_filter (ks : List ByteArray) (p : ByteArray → Bool) : sortB (ks.filter p) = (sortB ks).filter p :=
  sort_uniq (sortB_sorted _) ((sortB_sorted ks).filter p) ((sortB_perm _).trans ((sortB_perm ks).symm.filter p))

/-! Writing the variable. -/
theorem mapOf_set {H : Heap} {nx e sl : Nat} {L : Value} {ks : List ByteArray} {c : List Value} (hm : MapOf H nx L ks) (he : getH H e = some (.cells c sl)) (b : Option Blk) : MapOf (hs H e b) nx L ks := by
  rcases hm with h | ⟨r, es, k, h1, h2, h3, h4⟩
  · exact .inl h
  · refine .inr ⟨r, es, k, h1, h2, ?_, h4⟩
    rw [getH_ne _ (fun h => by rw [h, he] at h3; cases h3)]; exact h3
theorem zs_set {H : Heap} {nx e sl : Nat} {v : Value} {zs : List ByteArray} {m : Option Nat} {l : List Value} (hz : Zs H nx v zs) (he : getH H e = some (.cells (.map m :: l) sl)) (b : Option Blk) : Zs (hs H e b) nx v zs := by
  have hno : strs zs ≠ .map m :: l := fun h => by
    cases zs with
    | nil => cases h
    | cons z zs => cases h
  rcases hz with h | ⟨h0, b', h1, h2, h3, h4⟩
  · refine .inl ⟨h.1, ?_⟩
    rcases h.2 with h | ⟨b', h1, h2, h3, h4⟩
    · exact .inl h
    · refine .inr ⟨b', h1, h2, h3, ?_⟩
      rw [getH_ne _ (fun h => by
        rw [h, he] at h4
        injection h4 with h4
        injection h4 with h4
        exact hno h4.symm)]; exact h4
  · refine .inr ⟨h0, b', h1, h2, h3, ?_⟩
    rw [getH_ne _ (fun h => by
      rw [h, he] at h4
      injection h4 with h4
      injection h4 with h4
      cases h4)]; exact h4
/-- What holds at each turn of the loop. -/
structure LInv (H3 : Heap) (e M : Nat) (zsV : Value) (zs : List ByteArray) (L : Value) (ks : List ByteArray) (H' : Heap) (nx' : Nat) : Prop where
  ext : Ext H3 e H' nx'
  t6 : getH H' e = some (.cells [.map (some M), L] 0)
  lt : e < nx'
  z : Zs H' nx' zsV zs
  m : MapOf H' nx' L ks
  s : zs = sortB ks
  nd : ks.Nodup
  le8 : ks.length ≤ 8
  sz : ∀ k ∈ ks, k.size ≤ 100
theorem LInv.len {H3 : Heap} {e M : Nat} {zsV : Value} {zs : List ByteArray} {L : Value} {ks : List ByteArray} {H' : Heap} {nx' : Nat} (h : LInv H3 e M zsV zs L ks H' nx') : zs.length = ks.length := by
  rw [h.s]; exact (sortB_perm ks).length_eq
theorem LInv.mem {H3 : Heap} {e M : Nat} {zsV : Value} {zs : List ByteArray} {L : Value} {ks : List ByteArray} {H' : Heap} {nx' : Nat} (h : LInv H3 e M zsV zs L ks H' nx') (s : ByteArray) : s ∈ zs ↔ s ∈ ks := by
  rw [h.s]; exact (sortB_perm ks).mem_iff

theorem mapOf_ne {H : Heap} {nx q i : Nat} {ks : List ByteArray} (hm : MapOf H nx (.map (some q)) ks) (h : i ≠ q) (b : Option Blk) : MapOf (hs H i b) nx (.map (some q)) ks := by
  rcases hm with ⟨h1, _⟩ | ⟨r, es, k, h1, h2, h3, h4⟩
  · cases h1
  · injection h1 with h1
    injection h1 with h1
    subst h1
    exact .inr ⟨q, es, k, rfl, h2, by rw [getH_ne _ (fun e => h e.symm)]; exact h3, h4⟩
theorem LInv.step {H3 : Heap} {e M : Nat} {zsV : Value} {zs : List ByteArray} {L : Value} {ks : List ByteArray} {H' : Heap} {nx' : Nat} (h : LInv H3 e M zsV zs L ks H' nx') {H2 : Heap} {n2 : Nat} (x : Ext H' nx' H2 n2) : LInv H3 e M zsV zs L ks H2 n2 :=
  ⟨h.ext.trans x, by rw [x.get e h.lt]; exact h.t6, Nat.lt_of_lt_of_le h.lt x.le, h.z.ext x, h.m.ext x, h.s, h.nd, h.le8, h.sz⟩
/-- The variable is written anew. -/
theorem LInv.set {H3 : Heap} {e M : Nat} {zsV : Value} {zs : List ByteArray} {L : Value} {ks : List ByteArray} {H' : Heap} {nx' : Nat} (h : LInv H3 e M zsV zs L ks H' nx') {H2 : Heap} {n2 : Nat} (x : Ext H' nx' H2 n2) {zsV' L' : Value} {zs' ks' : List ByteArray} (hz : Zs H2 n2 zsV' zs') (hm : MapOf H2 n2 L' ks') (hs : zs' = sortB ks')
    (hn : ks'.Nodup) (h8 : ks'.length ≤ 8) (hsz : ∀ k ∈ ks', k.size ≤ 100) : LInv H3 e M zsV' zs' L' ks' (Go.Clo.hs H2 e (some (.cells [.map (some M), L'] 0))) n2 :=
  have t6 : getH H2 e = some (.cells [.map (some M), L] 0) := by rw [x.get e h.lt]; exact h.t6
  ⟨(h.ext.trans x).hs (Nat.le_refl _), getH_same _ _ _, Nat.lt_of_lt_of_le h.lt x.le, zs_set hz t6 _, mapOf_set hm t6 _, hs, hn, h8, hsz⟩
theorem names_same {H3 : Heap} {e M : Nat} {zsV : Value} {zs : List ByteArray} {L : Value} {ks : List ByteArray} {H' : Heap} {nx' : Nat} (inv : LInv H3 e M zsV zs L ks H' nx') (K : Value → Heap → Nat → Prop) (hK : ∀ H2 n2, LInv H3 e M zsV zs L ks H2 n2 → K (.bool true) H2 n2) :
    wCall Tryz.prog 14 [.agg ⟨[.map (some M), L]⟩] H' nx' fun c2 d f => wCall Tryz.prog 13 [c2, zsV] d f K := by
  have hl := inv.len
  have h8 := inv.le8
  refine wCall_rule (names14 _ L ks H' nx' inv.m (by omega)) ?_
  rintro _ H2 n2 ⟨A, rfl, hS, x⟩
  have inv2 := inv.step x
  obtain ⟨Az, hzv, hSz⟩ := inv2.z.open
  rw [hzv]
  refine wCall_rule (same13 A Az (sortB ks) zs _ _ H2 n2 hS hSz (by rw [(sortB_perm ks).length_eq]; omega)) ?_
  rintro _ _ n4 ⟨rfl, rfl, hn⟩
  have hd : decide (sortB ks = zs) = true := by rw [inv.s]; simp
  rw [hd]
  exact hK _ _ (inv2.step (Ext.self hn))

set_option maxHeartbeats 8000000 in
theorem law3 (A : Option Addr) (ss : List ByteArray) (c : Nat) (H : Heap) (nx : Nat) (hA : Sl H nx A (strs ss)) : Ans Tryz.prog 3 [.slice A ss.length c] H nx fun r H' nx' => r = .bool true := by
  refine spec3 ?_
  unfold F3
  simp (maxSteps := 4000000) only [↓wFl_eq, ↓wFls_eq, ↓wIx_eq, ↓wIxs_eq, ↓wBox_eq, ↓wBsl_eq, ↓wMsl_eq, ↓wAl_eq, ↓Rt_eq, ↓cE_eq, ↓tA_eq, ↓tB_eq, ↓wK_eq, ↓forceN_eq, ↓forceV_eq, ↓hsK_eq, ↓wNm_eq, ↓wNew_eq, ↓i0_eq, ↓i1_eq, ↓bT_eq, ↓bF_eq, ↓la_eq, ↓lb_eq, true_and, and_true, or_false]
  refine wCall_rule (Q := fun v H' nx' => .bool true = v ∧ H = H' ∧ nx = nx') ⟨_, _, _, awake4 H nx, rfl, rfl, rfl⟩ ?_
  rintro _ _ _ ⟨rfl, rfl, rfl⟩
  by_cases h40 : 40 < ss.length
  · have h40' : (40 : Int) < (ss.length : Int) := by omega
    simp (disch := first|omega|assumption) only [W0, oneCells, Yld.val, Nat.reduceAdd, Nat.reduceMul, Nat.reduceLeDiff, h40']
  have h40' : ¬ (40 : Int) < (ss.length : Int) := by omega
  simp (disch := first|omega|assumption) only [W0, oneCells, Yld.val, Nat.reduceAdd, Nat.reduceMul, Nat.reduceLeDiff, h40', dBsl_i1, wBuild_r, dBsl_r]
  have x0 : Ext H nx (hs (hs H nx (some (.cells [.int .i64 1] 0))) (nx + 1) (some (.cells [.string ⟨#[114]⟩, .slice (some ⟨nx, 0, none⟩) 1 1] 0))) (nx + 1 + 1) := ((Ext.refl H nx).new (m := nx + 1) _ (Nat.le_refl _) (by omega)).new _ (by omega) (by omega)
  obtain ⟨ρ0, hρ0, he0⟩ := emb_schema (H := hs (hs H nx (some (.cells [.int .i64 1] 0))) (nx + 1) (some (.cells [.string ⟨#[114]⟩, .slice (some ⟨nx, 0, none⟩) 1 1] 0))) (nx := nx + 1 + 1) (a := nx) (b := nx + 1) (by omega) (by omega) (by omega) (by simp (disch := omega) only [getH_ne, getH_same]) (by simp (disch := omega) only [getH_same]; rfl)
  have hN := stepA ch.c1 ch.a1 he0 (by rfl)
  rw [show renL ρ0 [pt 1] = [.slice (some ⟨nx + 1, 0, none⟩) 1 1] by simp [renL, ren, pt, renP, hρ0]] at hN
  refine wCall_rule hN ?_
  rintro v1 H1 d ⟨hv1, x1, he1⟩
  generalize newρ ρ0 2 (nx + 1 + 1) = ρ1 at hv1 he1
  have hv1' : v1 = .tuple ⟨[.agg ⟨[.map (some (ρ1 ch.m))]⟩, .int .i64 0]⟩ := by rw [hv1]; simp [ren, renA, renL, dbV]
  rw [hv1']
  have hmlt := ch_mlt
  have hM := he1.lt ch.m hmlt
  simp (disch := first|omega|assumption) only [W0, oneCells, Yld.val, Nat.reduceAdd, Nat.reduceMul, Nat.reduceLeDiff, dBsl_x, wBuild_t, dBsl_t, wBuild_a, dBsl_a, wBuild_q, dBsl_q, wBuild_z, wLd_1, cellP_11, putL_lit1, putL_lit5]
  refine wCall_rule (new6 _ _ _) ?_
  rintro _ H3 e ⟨rfl, x3⟩
  simp (disch := first|omega|assumption) only [W0, oneCells, Yld.val, Nat.reduceAdd, Nat.reduceMul, Nat.reduceLeDiff, putL_lit2]
  revert x3
  generalize hH2 : Go.Clo.hs _ _ _ = H2
  intro x3
  have x2 : Ext H1 d H2 (d + 1 + 1 + 1 + 1 + 1 + 1) := by
    rw [← hH2]
    exact ((((((((Ext.refl H1 d).new (m := d + 1) _ (Nat.le_refl _) (by omega)).hs (by omega)).new (m := d + 1 + 1) _ (by omega) (by omega)).new (m := d + 1 + 1 + 1) _ (by omega) (by omega)).new (m := d + 1 + 1 + 1 + 1) _ (by omega) (by omega)).new (m := d + 1 + 1 + 1 + 1 + 1) _ (by omega) (by omega)).new (m := d + 1 + 1 + 1 + 1 + 1 + 1) _ (by omega) (by omega)).hs (by omega)
  obtain ⟨ρ2, r1, r2, r3, he2⟩ := emb_query (a := d + 1) (b := d + 1 + 1) (c := d + 1 + 1 + 1) (d := d + 1 + 1 + 1 + 1) (emb_ext he1 x2) (fun i hi => .inl (Nat.lt_succ_of_lt (he1.lt i hi))) (by omega) (by omega) (by omega) (by omega)
    (by rw [← hH2]; simp (disch := omega) only [getH_ne, getH_same]; rfl) (by rw [← hH2]; simp (disch := omega) only [getH_ne, getH_same]; rfl) (by rw [← hH2]; simp (disch := omega) only [getH_ne, getH_same]; rfl) (by rw [← hH2]; simp (disch := omega) only [getH_ne, getH_same]; rfl)
  have hq : qR ρ2 = .agg ⟨[.slice (some ⟨d + 1, 0, none⟩) 1 1, .int .i64 0, .string ⟨#[]⟩, .slice (some ⟨d + 1 + 1 + 1 + 1, 0, none⟩) 1 1, .slice none 0 0]⟩ := by unfold qR; rw [r1, r2]; rfl
  have hm2 : ρ2 ch.m = ρ1 ch.m := r3 _ hmlt
  have t5 : getH H2 (d + 1 + 1 + 1 + 1 + 1) = some (.cells [.slice (some ⟨d + 1, 0, none⟩) 1 1, .int .i64 0, .string ⟨#[]⟩, .slice (some ⟨d + 1 + 1 + 1 + 1, 0, none⟩) 1 1, .slice none 0 0] 0) := by rw [← hH2]; simp (disch := omega) only [getH_same]
  have t5' : getH H3 (d + 1 + 1 + 1 + 1 + 1) = some (.cells [.slice (some ⟨d + 1, 0, none⟩) 1 1, .int .i64 0, .string ⟨#[]⟩, .slice (some ⟨d + 1 + 1 + 1 + 1, 0, none⟩) 1 1, .slice none 0 0] 0) := by rw [x3.get _ (by omega)]; exact t5
  have he3 := emb_ext he2 x3
  have hA3 : Sl H3 e A (strs ss) := hA.ext (((x0.trans x1).trans x2).trans x3)
  have hde := x3.le
  rw [← hm2]
  clear hH2 t5 he2 r1 r2 r3 he1 he0 hN hv1 hv1' x0 x1 x2 x3 hA hm2 hM
  generalize d + 1 + 1 + 1 + 1 + 1 = p5 at *
  refine wLoop_rule (fun m Ls H' nx' => ∃ i zsV zs L ks, m + i = ss.length ∧ Ls = [zsV, .int .i64 ((i : Nat) : Int)] ∧ LInv H3 e (ρ2 ch.m) zsV zs L ks H' nx') ?_ (m := ss.length) ⟨0, .slice none 0 0, [], .map none, [], by omega, rfl, ⟨?_, getH_same _ _ _, by omega, Zs.nil _ _, .inl ⟨rfl, rfl⟩, rfl, List.nodup_nil, by simp, by simp⟩⟩
  · rintro m ih Ls Hc n0 ⟨i, zsV, zs, L, ks, hm, rfl, inv⟩ hih
    have hAc := hA3.ext inv.ext
    have hlen := inv.len
    have hle8 := inv.le8
    obtain ⟨Az, hzv, hSz⟩ := inv.z.open
    by_cases hi : i < ss.length
    · have hi' : (i : Int) < (ss.length : Int) := by omega
      obtain ⟨b, o, row, rfl, hbe, hrow3, hget⟩ := hA3.open (i := i) (by rw [strs_length]; exact hi)
      have hrow : rowOf Hc b = some row := by rw [inv.ext.row hbe]; exact hrow3
      have hb := Nat.lt_trans hbe inv.lt
      have het := inv.lt
      have hx : ss[i]? = some ss[i] := List.getElem?_eq_getElem hi
      generalize ss[i] = s at hx
      have hgs := hget _ _ (strs_get hx)
      simp (disch := first|omega|assumption) only [W0, oneCells, Yld.val, Nat.reduceAdd, Nat.reduceMul, Nat.reduceLeDiff, hi', ldP_row hrow, hgs, wJoin_eq]
      by_cases h100 : 100 < s.size
      · have h100' : (100 : Int) < (s.size : Int) := by omega
        simp (disch := first|omega|assumption) only [W0, oneCells, Yld.val, Nat.reduceAdd, Nat.reduceMul, Nat.reduceLeDiff, h100']
      have h100' : ¬ (100 : Int) < (s.size : Int) := by omega
      simp (disch := first|omega|assumption) only [W0, oneCells, Yld.val, Nat.reduceAdd, Nat.reduceMul, Nat.reduceLeDiff, h100']
      subst hzv
      refine wCall_rule (in7 Az zs _ s Hc n0 hSz (by omega)) ?_
      rintro _ _ _ ⟨⟨cc, rfl, hcc⟩, rfl, rfl⟩
      have dz : decide ((0 : Int) ≠ 0) = false := rfl
      cases cc with
      | true =>
        have hin : s ∈ ks := (inv.mem s).1 (hcc.1 rfl)
        simp (disch := first|omega|assumption) only [W0, oneCells, Yld.val, Nat.reduceAdd, Nat.reduceMul, Nat.reduceLeDiff, inv.t6, cellP_lit2, ldP_row hrow, hgs, eq_self]
        refine wCall_rule (drop8 (some (ρ2 ch.m)) L ks s Hc (n0 + 12) (inv.m.ext (Ext.self (by omega))) (by omega) inv.nd hin) ?_
        rintro _ H2 n2 ⟨q, hq0, rfl, hm2, x2⟩
        have y2 : Ext Hc n0 H2 n2 := (Ext.self (by omega)).trans x2
        have t6a : getH H2 e = some (.cells [.map (some (ρ2 ch.m)), L] 0) := by rw [y2.get e inv.lt]; exact inv.t6
        have rowa : rowOf H2 b = some row := by rw [y2.row hb]; exact hrow
        simp (disch := first|omega|assumption) only [W0, oneCells, Yld.val, Nat.reduceAdd, Nat.reduceMul, Nat.reduceLeDiff, t6a, ldP_row rowa, hgs, putL_lit2, cellP_lit2, dz]
        have yh : Ext Hc n0 (Go.Clo.hs (Go.Clo.hs H2 (n0 + 9) (some (.cells [.map none, .map none] 0))) (n0 + 9) (some (.cells [.map (some (ρ2 ch.m)), .map (some q)] 0))) n2 := (y2.hs (by omega)).hs (by omega)
        have hSd : Sl (Go.Clo.hs (Go.Clo.hs (Go.Clo.hs H2 (n0 + 9) (some (.cells [.map none, .map none] 0))) (n0 + 9) (some (.cells [.map (some (ρ2 ch.m)), .map (some q)] 0))) e (some (.cells [.map (some (ρ2 ch.m)), .map (some q)] 0))) n2 Az (strs zs) := by
          obtain ⟨A2, e2, h2⟩ := (zs_set (inv.z.ext yh) (e := e) (sl := 0) (m := some (ρ2 ch.m)) (l := [L]) (by rw [yh.get e inv.lt]; exact inv.t6) (some (.cells [.map (some (ρ2 ch.m)), .map (some q)] 0))).open
          injection e2 with e2
          rw [e2]; exact h2
        refine wCall_rule (without9 Az zs zs.length s _ n2 hSd (by omega)) ?_
        rintro _ H5 n5 ⟨hz5, x5⟩
        have hmh := mapOf_ne (mapOf_ne hm2 (i := n0 + 9) (by omega) (some (.cells [.map none, .map none] 0))) (i := n0 + 9) (by omega) (some (.cells [.map (some (ρ2 ch.m)), .map (some q)] 0))
        have hfl := List.length_filter_le (fun z => !decide (z = s)) ks
        have t6h : getH (Go.Clo.hs (Go.Clo.hs H2 (n0 + 9) (some (.cells [.map none, .map none] 0))) (n0 + 9) (some (.cells [.map (some (ρ2 ch.m)), .map (some q)] 0))) e = some (.cells [.map (some (ρ2 ch.m)), L] 0) := by rw [yh.get e inv.lt]; exact inv.t6
        have l2 := y2.le
        have l5 := x5.le
        exact hih (m - 1) _ _ _ (by omega) ⟨i + 1, _, zs.filter fun z => !decide (z = s), .map (some q), ks.filter fun z => !decide (z = s), by omega, by simp, ⟨((inv.ext.trans yh).hs (Nat.le_refl _)).trans x5, by rw [x5.get e (by omega)]; exact getH_same _ _ _, by omega, hz5, (mapOf_set hmh t6h _).ext x5, by rw [sort_filter, inv.s], inv.nd.filter _, by omega, fun k hk => inv.sz k (List.mem_filter.1 hk).1⟩⟩
      | false =>
        have hni : s ∉ ks := fun h => by have := hcc.2 ((inv.mem s).2 h); cases this
        have hL1 : oneCells [L] = true := by
          rcases inv.m with ⟨e1, _⟩ | ⟨r, es, c, e1, _⟩ <;> rw [e1] <;> rfl
        have t5c : getH Hc p5 = some (.cells [.slice (some ⟨d + 1, 0, none⟩) 1 1, .int .i64 0, .string ⟨#[]⟩, .slice (some ⟨d + 1 + 1 + 1 + 1, 0, none⟩) 1 1, .slice none 0 0] 0) := by rw [inv.ext.get p5 (by omega)]; exact t5'
        have d7 : decide ((7 : Int) ≠ 7) = false := rfl
        have d11 : decide ((11 : Int) ≠ 11) = false := rfl
        have f7 : decide ((7 : Int) = 0) = false := rfl
        have f11 : decide ((11 : Int) = 0) = false := rfl
        have f0 : decide ((0 : Int) = 0) = true := rfl
        simp (disch := first|omega|assumption) only [W0, oneCells, Yld.val, Nat.reduceAdd, Nat.reduceMul, Nat.reduceLeDiff, inv.t6, cellP_lit2, ldP_row hrow, hgs, wLd_5, t5c, cellP_lit5, eq_self]
        have hD := define10 (ρ := ρ2) L ks s Hc (n0 + 13) (emb_ext he3 (inv.ext.more (by omega))) (inv.m.ext (Ext.self (by omega))) (by omega) hni (by omega)
        rw [hq] at hD
        refine wCall_rule hD ?_
        rintro _ H2 n2 ⟨x2, hres⟩
        have y2 : Ext Hc n0 H2 n2 := (Ext.self (by omega)).trans x2
        have t6a : getH H2 e = some (.cells [.map (some (ρ2 ch.m)), L] 0) := by rw [y2.get e inv.lt]; exact inv.t6
        have rowa : rowOf H2 b = some row := by rw [y2.row hb]; exact hrow
        have l2 := y2.le
        rcases hres with ⟨hbad, rfl⟩ | ⟨hok, h8, rfl⟩ | ⟨hok, h8, q, hq0, rfl, hm2⟩
        · simp (disch := first|omega|assumption) only [W0, oneCells, Yld.val, Nat.reduceAdd, Nat.reduceMul, Nat.reduceLeDiff, t6a, ldP_row rowa, hgs, putL_lit2, cellP_lit2, hL1]
          refine wCall_rule (catalog37 s _ _ (by omega)) ?_
          rintro _ _ _ ⟨⟨c2, rfl, hc2⟩, rfl, rfl⟩
          cases c2 with
          | true => exact absurd (hc2.1 rfl) hbad
          | false =>
            simp (disch := first|omega|assumption) only [W0, oneCells, Yld.val, Nat.reduceAdd, Nat.reduceMul, Nat.reduceLeDiff, t6a, ldP_row rowa, hgs, putL_lit2, cellP_lit2, hL1, d7, f7]
            have yh : Ext Hc n0 (Go.Clo.hs (Go.Clo.hs H2 (n0 + 10) (some (.cells [.map none, .map none] 0))) (n0 + 10) (some (.cells [.map (some (ρ2 ch.m)), L] 0))) n2 := (y2.hs (by omega)).hs (by omega)
            refine names_same (inv.set yh (inv.z.ext yh) (inv.m.ext yh) inv.s inv.nd inv.le8 inv.sz) _ fun H4 n4 inv4 => ?_
            simp (disch := first|omega|assumption) only [W0, oneCells, Yld.val, Nat.reduceAdd, Nat.reduceMul, Nat.reduceLeDiff]
            exact hih (m - 1) _ _ _ (by omega) ⟨i + 1, _, zs, L, ks, by omega, by simp, inv4⟩
        · have z8 : (zs.length : Int) = 8 := by omega
          have d8 : decide ((zs.length : Int) = 8) = true := by simp [z8]
          simp (disch := first|omega|assumption) only [W0, oneCells, Yld.val, Nat.reduceAdd, Nat.reduceMul, Nat.reduceLeDiff, t6a, ldP_row rowa, hgs, putL_lit2, cellP_lit2, hL1]
          refine wCall_rule (catalog37 s _ _ (by omega)) ?_
          rintro _ _ _ ⟨⟨c2, rfl, hc2⟩, rfl, rfl⟩
          cases c2 with
          | false => have := hc2.2 hok; cases this
          | true =>
            simp (disch := first|omega|assumption) only [W0, oneCells, Yld.val, Nat.reduceAdd, Nat.reduceMul, Nat.reduceLeDiff, t6a, ldP_row rowa, hgs, putL_lit2, cellP_lit2, hL1, d8, d11, f11]
            have yh : Ext Hc n0 (Go.Clo.hs (Go.Clo.hs H2 (n0 + 10) (some (.cells [.map none, .map none] 0))) (n0 + 10) (some (.cells [.map (some (ρ2 ch.m)), L] 0))) n2 := (y2.hs (by omega)).hs (by omega)
            refine names_same (inv.set yh (inv.z.ext yh) (inv.m.ext yh) inv.s inv.nd inv.le8 inv.sz) _ fun H4 n4 inv4 => ?_
            simp (disch := first|omega|assumption) only [W0, oneCells, Yld.val, Nat.reduceAdd, Nat.reduceMul, Nat.reduceLeDiff]
            exact hih (m - 1) _ _ _ (by omega) ⟨i + 1, _, zs, L, ks, by omega, by simp, inv4⟩
        · have z8 : ¬ (zs.length : Int) = 8 := by omega
          have d8 : decide ((zs.length : Int) = 8) = false := by simp [z8]
          simp (disch := first|omega|assumption) only [W0, oneCells, Yld.val, Nat.reduceAdd, Nat.reduceMul, Nat.reduceLeDiff, t6a, ldP_row rowa, hgs, putL_lit2, cellP_lit2, hL1]
          refine wCall_rule (catalog37 s _ _ (by omega)) ?_
          rintro _ _ _ ⟨⟨c2, rfl, hc2⟩, rfl, rfl⟩
          cases c2 with
          | false => have := hc2.2 hok; cases this
          | true =>
            simp (disch := first|omega|assumption) only [W0, oneCells, Yld.val, Nat.reduceAdd, Nat.reduceMul, Nat.reduceLeDiff, t6a, ldP_row rowa, hgs, putL_lit2, cellP_lit2, d8, dz, f0]
            have yh : Ext Hc n0 (Go.Clo.hs (Go.Clo.hs H2 (n0 + 10) (some (.cells [.map none, .map none] 0))) (n0 + 10) (some (.cells [.map (some (ρ2 ch.m)), .map (some q)] 0))) n2 := (y2.hs (by omega)).hs (by omega)
            have t6h : getH (Go.Clo.hs (Go.Clo.hs H2 (n0 + 10) (some (.cells [.map none, .map none] 0))) (n0 + 10) (some (.cells [.map (some (ρ2 ch.m)), .map (some q)] 0))) e = some (.cells [.map (some (ρ2 ch.m)), L] 0) := by rw [yh.get e inv.lt]; exact inv.t6
            have hmh := mapOf_ne (mapOf_ne hm2 (i := n0 + 10) (by omega) (some (.cells [.map none, .map none] 0))) (i := n0 + 10) (by omega) (some (.cells [.map (some (ρ2 ch.m)), .map (some q)] 0))
            refine wCall_rule (put12 _ zs s _ n2 (zs_set (inv.z.ext yh) t6h _) (by omega)) ?_
            rintro _ H5 n5 ⟨hz5, x5⟩
            have l5 := x5.le
            have t6e : getH H5 e = some (.cells [.map (some (ρ2 ch.m)), .map (some q)] 0) := by rw [x5.get e (by omega)]; exact getH_same _ _ _
            simp (disch := first|omega|assumption) only [W0, oneCells, Yld.val, Nat.reduceAdd, Nat.reduceMul, Nat.reduceLeDiff, t6e, cellP_lit2]
            have inv5 : LInv H3 e (ρ2 ch.m) _ (insB s zs) (.map (some q)) (ks ++ [s]) H5 n5 := ⟨((inv.ext.trans yh).hs (Nat.le_refl _)).trans x5, t6e, by omega, hz5, (mapOf_set hmh t6h _).ext x5, by rw [sort_ins, inv.s], by
              rw [List.nodup_append]
              exact ⟨inv.nd, by simp, fun a ha b hb => by rw [List.mem_singleton.1 hb]; exact fun h => hni (h ▸ ha)⟩, by rw [List.length_append]; simp; omega, fun k hk => by
              rcases List.mem_append.1 hk with h | h
              · exact inv.sz k h
              · rw [List.mem_singleton.1 h]; omega⟩
            refine names_same inv5 _ fun H6 n6 inv6 => ?_
            simp (disch := first|omega|assumption) only [W0, oneCells, Yld.val, Nat.reduceAdd, Nat.reduceMul, Nat.reduceLeDiff]
            exact hih (m - 1) _ _ _ (by omega) ⟨i + 1, _, _, _, _, by omega, by simp, inv6⟩
    · have hi' : ¬ (i : Int) < (ss.length : Int) := by omega
      have f0 : decide ((0 : Int) = 0) = true := rfl
      have het := inv.lt
      simp (disch := first|omega|assumption) only [W0, oneCells, Yld.val, Nat.reduceAdd, Nat.reduceMul, Nat.reduceLeDiff, hi', cellP_lit2]
      have xa : Ext Hc n0 (Go.Clo.hs Hc n0 (some (.cells [.map none, .map none] 0))) (n0 + 1) := (Ext.refl _ _).new _ (Nat.le_refl _) (by omega)
      refine wCall_rule (names14 (.map none) (.map none) [] _ (n0 + 1) (.inl ⟨rfl, rfl⟩) (by simp)) ?_
      rintro _ H2 n2 ⟨A2, rfl, hS2, x2⟩
      have e0 : ∀ k, wLen (.slice A2 (sortB []).length (sortB []).length) 0 H2 k = k (.int .i64 0) := fun k => rfl
      have inv2 := inv.step (xa.trans x2)
      simp (disch := first|omega|assumption) only [W0, oneCells, Yld.val, Nat.reduceAdd, Nat.reduceMul, Nat.reduceLeDiff, e0, f0, inv2.t6, cellP_lit2]
      exact names_same inv2 _ fun H4 n4 inv4 => rfl
  · exact ((Ext.refl H3 e).new (m := e + 1) _ (Nat.le_refl _) (by omega)).hs (Nat.le_refl _)
end Go.Proofs.YtchmiblahedkcaaGreatDoor
