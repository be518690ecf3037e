/-
  The law, when what the closed runs give is there.
-/
import Derived.Test.YtbmiedinclieaaaGreatDoorU8
set_option linter.all false
namespace Go.Proofs.YtbmiedinclieaaaGreatDoor
open Go.Clo

theorem wBuild_sch (s : ByteArray) (A : Option Addr) (n c : Nat) (k : VP) : wBuild [.string ⟨#[]⟩, .slice none 0 0] [(0, 1), (1, 1)] [(0, .string s), (1, .slice A n c)] k = k (.agg ⟨[.string s, .slice A n c]⟩) := spine_eq _ _
theorem dBsl_sch (s : ByteArray) (A : Option Addr) (n c : Nat) (k : List Value → Prop) : dBsl 1 2 [.string ⟨#[]⟩, .slice none 0 0] [(0, .agg ⟨[.string s, .slice A n c]⟩)] k = k [.string s, .slice A n c] := by
  rw [dBsl_eq]; rfl
theorem dBsl_upd (s : ByteArray) (b : Bool) (A : Option Addr) (n c : Nat) (k : List Value → Prop) : dBsl 1 3 [.bool false, .string ⟨#[]⟩, .slice none 0 0] [(0, .agg ⟨[.bool b, .string s, .slice A n c]⟩)] k = k [.bool b, .string s, .slice A n c] := by
  rw [dBsl_eq]; rfl
theorem remN (n d : Nat) (K : IntKind) (h : 0 < d) (k : VP) : wBin .rem (.int K (n : Int)) (.int K (d : Int)) k = k (.int K ((n % d : Nat) : Int)) := by
  rw [wBin_rem K (n : Int) (d : Int) k (by omega), Int.tmod_eq_emod_of_nonneg (by omega)]; rfl
theorem convN (n : Nat) (K : IntKind) (h : n ≤ 1000000) (k : VP) : wConv .i64 (.int K (n : Int)) k = k (.int .i64 (n : Int)) := by
  rw [wConv_eq, i64_id (by omega) (by omega)]
theorem refC_all (V P : Value) (i : Nat) (k : VP) : cellP (refC V P i) 0 (some 6) k = k (.agg ⟨refC V P i⟩) := cellP_6 _ _ _ _ _ _ k
def u8s (l : List Nat) : List Value := l.map fun (x : Nat) => Value.int .u8 (x : Int)
set_option maxRecDepth 20000 in
set_option maxHeartbeats 8000000 in
theorem law3 (C : Cl) (hcl : CloneOK) (hso : SortedOK) (hco : CollectOK) (haw : ∀ H nx, Ans Tryz.prog 4 [] H nx fun v H' nx' => .bool true = v ∧ H = H' ∧ nx = nx') {A : Option Addr} (bs : List Nat) (cap many : Nat) {H : Heap} {nx : Nat} (hA : Sl H nx A (u8s bs)) (hb : ∀ x ∈ bs, x < 256) (hm : many < 256) :
    Ans Tryz.prog 3 [.slice A bs.length cap, .int .u8 (many : Int)] H nx fun r _ _ => r = .bool true := by
  refine spec3 ?_
  unfold F3
  simp (maxSteps := 4000000) only [↓wFl_eq, ↓wFls_eq, ↓wIx_eq, ↓wIxs_eq, ↓wBox_eq, ↓wBsl_eq, ↓wMsl_eq, ↓wAl_eq, ↓Rt_eq, ↓cE_eq, ↓tA_eq, ↓tB_eq, ↓wK_eq, ↓forceN_eq, ↓forceV_eq, ↓hsK_eq, ↓wNm_eq, ↓wNew_eq, ↓i0_eq, ↓i1_eq, ↓bT_eq, ↓bF_eq, ↓la_eq, ↓lb_eq, true_and, and_true, or_false]
  refine wCall_rule (haw H nx) ?_
  rintro _ _ _ ⟨rfl, rfl, rfl⟩
  by_cases h20 : 20 < bs.length
  · have h20' : (20 : Int) < (bs.length : Int) := by omega
    simp (config := { maxSteps := 2000000 }) (disch := first|omega|assumption) only [W0, oneCells, Yld.val, Nat.reduceAdd, Nat.reduceMul, Nat.reduceLeDiff, h20']
  have h20' : ¬ (20 : Int) < (bs.length : Int) := by omega
  simp (config := { maxSteps := 2000000 }) (disch := first|omega|assumption) only [W0, oneCells, Yld.val, Nat.reduceAdd, Nat.reduceMul, Nat.reduceLeDiff, h20', dBsl_z, wBuild_sch, dBsl_sch]
  have x2 := (((Ext.refl H nx).new (m := nx + 1) (i := nx) (some (.cells [.int .i64 1] 0)) (by omega) (by omega)).new (m := nx + 1 + 1) (i := nx + 1) (some (.cells [.string ⟨#[114]⟩, .slice (some ⟨nx, 0, none⟩) 1 1] 0)) (by omega) (by omega))
  revert x2
  generalize hK2 : Go.Clo.hs _ (nx + 1) _ = K2
  intro x2
  refine wCall_rule (C.create (p := nx + 1) (q := nx) (by omega) (by omega) (by omega) (by rw [← hK2]; simp (disch := omega) only [getH_ne, getH_same]) (by rw [← hK2]; exact getH_same _ _ _)) ?_
  rintro _ H3 n3 ⟨S, r, d, rfl, hst, hdb, hr0, hr, hI, x3⟩
  obtain ⟨hS, hO⟩ := C.store_len hst
  have hE := eng_one hO r 0
  have l3 := x3.le
  simp (config := { maxSteps := 2000000 }) (disch := first|omega|assumption) only [W0, oneCells, Yld.val, Nat.reduceAdd, Nat.reduceMul, Nat.reduceLeDiff, eng_len hS, hE, putL_eng hS]
  have y4 := ((Ext.refl H3 n3).new (m := n3 + 1) (i := n3) (some (.cells [.bool false, .int .i64 0, .pointer none, .pointer none, .pointer none, .int .i64 0, .int .i64 0, .pointer none, .pointer none, .pointer none, .int .i64 0, .int .i64 0, .int .i64 0, .int .u64 0, .int .u64 0, .int .u64 0, .int .i64 0, .int .i64 0, .int .i64 0, .map none, .map none, .slice none 0 0, .map none, .int .i64 0] 0)) (by omega) (by omega)).hs (i := n3) (b := some (.cells (eng S r 0) 0)) (by omega)
  revert y4
  generalize hK4 : Go.Clo.hs _ n3 _ = K4
  intro y4
  have ge : getH K4 n3 = some (.cells (eng S r 0) 0) := by rw [← hK4]; exact getH_same _ _ _
  clear hK4
  refine wCall_rule (refnew6 K4 (n3 + 1)) ?_
  rintro _ H5 n5 ⟨V, P, rfl, hV, hP, x5⟩
  have l5 := x5.le
  obtain ⟨a, rfl⟩ := hV.out
  obtain ⟨b, rfl⟩ := hP.out
  have d0 : decide ((0 : Int) ≠ 0) = false := rfl
  unfold refC
  simp (config := { maxSteps := 2000000 }) (disch := first|omega|assumption) only [W0, oneCells, Yld.val, Nat.reduceAdd, Nat.reduceMul, Nat.reduceLeDiff, d0, putL_66]
  have y6 := ((Ext.refl H5 n5).new (m := n5 + 1) (i := n5) (some (.cells [.int .i64 0, .int .i64 0, .int .i64 0, .slice none 0 0, .slice none 0 0, .bool false] 0)) (by omega) (by omega)).hs (i := n5) (b := some (.cells (refC (.slice (some ⟨a, 0, none⟩) [0].length [0].length) (.slice (some ⟨b, 0, none⟩) [0].length [0].length) 0) 0)) (by omega)
  have z6 : Ext H nx _ (n5 + 1) := (((x2.trans x3).trans y4).trans x5).trans y6
  have hLI : LI C n3 n5 0 (fun _ => 0) _ (n5 + 1) := ⟨by omega, by omega, by omega, none, fun b hb => (by cases hb), ⟨S, r, fun _ => d, (y6.get n3 (by omega)).trans ((x5.get n3 (by omega)).trans ge), C.store_e (C.store_e (C.store_av hst (Av' := VarB n3 n5) fun j hj => .inr (by rcases hj with h | h <;> omega)) ((y4.trans x5).trans y6)) (Ext.refl _ _), by omega, by omega, by omega, fun b hb => (by cases hb), ?_, ?_⟩, ⟨_, _, getH_same _ _ _, ?_, ?_⟩⟩
  rotate_left
  · rw [show avail (fun _ => 0) 0 = [0] from avail_low (by omega)]
    exact ((hI.ext hr ((y4.trans x5).trans y6)))
  · intro v hv
    rw [show avail (fun _ => 0) 0 = [0] from avail_low (by omega)] at hv
    rw [List.mem_singleton.1 hv]
    exact C.db_e (C.db_av hdb (Av' := AvB (VarB n3 n5) none) fun j hj => .inr (by rcases hj with (h | h) | h <;> first | omega | cases h)) ((y4.trans x5).trans y6)
  · rw [show avail (fun _ => 0) 0 = [0] from avail_low (by omega)]
    exact (hV.av fun j hj => by rcases hj with (h | h) | h <;> first | omega | cases h).ext y6
  · rw [show (avail (fun _ => 0) 0).map (fun _ => 0) = [0] by rw [avail_low (by omega)]; rfl]
    exact (hP.av fun j hj => by rcases hj with (h | h) | h <;> first | omega | cases h).ext y6
  unfold refC at hLI z6
  revert hLI z6
  generalize Go.Clo.hs _ n5 _ = K6
  generalize n5 + 1 = N6
  intro z6 hLI
  have hN : (many : Int) - 30 * ((many : Int) / 30) = ((many % 30 : Nat) : Int) := by omega
  have hmod : many % 30 < 30 := Nat.mod_lt _ (by omega)
  refine wLoop_rule (fun m L H' n' => ∃ (i : Nat) (c : Nat → Nat), m + i = 64 + many % 30 ∧ L = [.int .i64 (i : Int)] ∧ LI C n3 n5 i c H' n' ∧ Cnt c (if i ≤ 40 then 0 else bs.length) i ∧ Ext H nx H' n') ?_ (m := 64 + many % 30) ⟨0, fun _ => 0, by omega, rfl, hLI, Cnt.zero, z6⟩
  rintro m ih L H7 n7 ⟨i, c, hmi, rfl, hL, hC, x7⟩ hih
  obtain ⟨hne, hltx, hltr, bb, hbx, ⟨S7, r7, m7, g1, g2, g3, g4, g5, gr, g6, g7⟩, ⟨V7, P7, p1, p2, p3⟩⟩ := id hL
  have hbb := C.store_bb g2
  have hb3 : ∀ b, bb = some b → n3 ≠ b := fun b hb => by have := hbx b hb; omega
  have hb5 : ∀ b, bb = some b → n5 ≠ b := fun b hb e => (hbb b hb).2 (.inr e.symm)
  obtain ⟨hS7, hO7⟩ := C.store_len g2
  have hr30 := fun k : VP => remN many 30 .u8 (by omega) k
  have hcv := fun k : VP => convN (many % 30) .u8 (by omega) k
  rw [show ((30 : Nat) : Int) = 30 from rfl] at hr30
  by_cases hi : i < 64 + many % 30
  · have hi' : (i : Int) < 64 + ((many % 30 : Nat) : Int) := by omega
    simp (config := { maxSteps := 2000000 }) (disch := first|omega|assumption) only [W0, oneCells, Yld.val, Nat.reduceAdd, Nat.reduceMul, Nat.reduceLeDiff, hr30, hcv, hi', wLd_24, g1, eng_all hS7]
    refine wCall_rule (insert8 i H7 (n7 + 11)) ?_
    rintro _ H8 n8 ⟨a8, rfl, ha8, ha9, hg8, x8⟩
    unfold updV
    have l8 := x8.le
    simp (config := { maxSteps := 2000000 }) (disch := first|omega|assumption) only [W0, oneCells, Yld.val, Nat.reduceAdd, Nat.reduceMul, Nat.reduceLeDiff, dBsl_upd]
    have hCle : ∀ v, c v ≤ 1000000 := fun v => by have := hC.le v; split at this <;> omega
    have hCp : (pinned c).length ≤ 20 := by have := hC.num; split at this <;> omega
    have h93 : i < 93 := by omega
    have x9 : Ext H7 n7 (hs H8 (n7 + 3) (some (.cells (updV a8) 0))) n8 := ((Ext.self (by omega)).trans x8 |>.hs (by omega))
    have hu9 : UpdAt (AvU (VarB n3 n5) n7 n8) i (.slice (some ⟨n7 + 3, 0, none⟩) 1 1) (hs H8 (n7 + 3) (some (.cells (updV a8) 0))) n8 := ⟨a8, n7 + 3, by omega, by omega, .inr ⟨by omega, by omega⟩, .inr ⟨by omega, by omega⟩, by omega, rfl, by rw [getH_ne _ (by omega)]; exact hg8, getH_same _ _ _⟩
    have hst9 := C.store_e (C.store_av g2 (Av' := AvU (VarB n3 n5) n7 n8) fun j hj => hj.imp id fun h => h.1) x9
    have hdb9 : ∀ v ∈ avail c i, C.DbAt (AvB (AvU (VarB n3 n5) n7 n8) bb) v (m7 v) _ n8 := fun v hv => C.db_e (C.db_av (g7 v hv) fun j hj => by
      rcases hj with (h | h) | h
      · exact .inl (.inl h)
      · exact .inr h.1
      · exact .inl (.inr h)) x9
    have hI9 := g6.ext g3 x9
    have p1' := (x9.get n5 hltr).trans p1
    have p2' := p2.ext x9
    have p3' := p3.ext x9
    have g1' := (x9.get n3 hltx).trans g1
    unfold updV at hu9 hst9 hdb9 hI9 p1' p2' p3' x9 g1'
    have z9 := x7.trans x9
    revert hu9 hst9 hdb9 hI9 p1' p2' p3' x9 g1' z9
    generalize Go.Clo.hs H8 (n7 + 3) _ = K9
    intro x9 hu9 hst9 hdb9 hI9 p1' p2' p3' g1' z9
    refine wCall_rule (log7 C hcl hso hco hst9 hI9 (by omega) gr h93 (fun j hj => by rcases hj with (h | h) | h <;> omega) (hdb9 i avail_last) hu9 hC.low hCp hCle) ?_
    rintro _ H10 n10 ⟨S', q, d', bb', hq0, hq, rfl, hst10, hb10, hI10, hdb10, x10⟩
    have hdb9 : ∀ v ∈ avail c i, C.DbAt (AvB (AvU (VarB n3 n5) n7 n8) bb) v (m7 v) (kl K9 bb) n8 := fun v hv => C.db_ext (hdb9 v hv) (Nat.le_refl _) fun j hj hA => getH_kl fun b hb e => hA (.inr (e ▸ hb))
    have p1' := (getH_kl (H := K9) hb5).trans p1'
    have g1k := (getH_kl (H := K9) hb3).trans g1'
    have p2' : NatsAt (AvB (VarB n3 n5) bb) V7 (avail c i) (kl K9 bb) n8 := p2'.keep (Nat.le_refl _) fun j hj hA => getH_kl fun b hb e => hA (.inr (e ▸ hb))
    have p3' : NatsAt (AvB (VarB n3 n5) bb) P7 ((avail c i).map c) (kl K9 bb) n8 := p3'.keep (Nat.le_refl _) fun j hj hA => getH_kl fun b hb e => hA (.inr (e ▸ hb))
    have z9 : Ext H nx (kl K9 bb) n8 := ⟨z9.le, fun j hj => (getH_kl fun b hb => by have := hbx b hb; omega).trans (z9.get j hj)⟩
    have x9 : Ext (kl H7 bb) n7 (kl K9 bb) n8 := ext_kl x9 bb
    have p2 : NatsAt (AvB (VarB n3 n5) bb') V7 (avail c i) (kl H7 bb) n7 := (p2.keep (Nat.le_refl _) fun j hj hA => getH_kl fun b hb e => hA (.inr (e ▸ hb))).av fun j hj => by
      rcases hj with h | h
      · exact .inl (.inl h)
      · exact .inr (by have := (hb10 j h).1; omega)
    have p3 : NatsAt (AvB (VarB n3 n5) bb') P7 ((avail c i).map c) (kl H7 bb) n7 := (p3.keep (Nat.le_refl _) fun j hj hA => getH_kl fun b hb e => hA (.inr (e ▸ hb))).av fun j hj => by
      rcases hj with h | h
      · exact .inl (.inl h)
      · exact .inr (by have := (hb10 j h).1; omega)
    obtain ⟨hS', hO'⟩ := C.store_len hst10
    have l10 := x10.le
    have hE10 := eng_one hO' q (i + 1)
    have g10 := (x10.get n3 (by omega)).trans g1k
    have d0 : decide ((0 : Int) ≠ 0) = false := rfl
    have r10 := (x10.get n5 (by omega)).trans p1'
    have g8 := (x8.get n3 (by omega)).trans g1
    simp (config := { maxSteps := 2000000 }) (disch := first|omega|assumption) only [W0, oneCells, Yld.val, Nat.reduceAdd, Nat.reduceMul, Nat.reduceLeDiff, eng_len hS', hE10, putL_eng hS', wLd_24, g1', g8, g10, eng_all hS7, d0, eng_all hS', wLd6, r10, refC_all]
    have x11 : Ext (kl H7 bb) n7 (hs (hs H10 (n7 + 8) (some (.cells [.bool false, .int .i64 0, .pointer none, .pointer none, .pointer none, .int .i64 0, .int .i64 0, .pointer none, .pointer none, .pointer none, .int .i64 0, .int .i64 0, .int .i64 0, .int .u64 0, .int .u64 0, .int .u64 0, .int .i64 0, .int .i64 0, .int .i64 0, .map none, .map none, .slice none 0 0, .map none, .int .i64 0] 0))) (n7 + 8) (some (.cells (eng S' q (i + 1)) 0))) (n10 + 5) := (((x9.trans x10).hs (by omega)).hs (by omega)).more (by omega)
    have k11 : ∀ j, j ≠ n7 + 8 → getH (hs (hs H10 (n7 + 8) (some (.cells [.bool false, .int .i64 0, .pointer none, .pointer none, .pointer none, .int .i64 0, .int .i64 0, .pointer none, .pointer none, .pointer none, .int .i64 0, .int .i64 0, .int .i64 0, .int .u64 0, .int .u64 0, .int .u64 0, .int .i64 0, .int .i64 0, .int .i64 0, .map none, .map none, .slice none 0 0, .map none, .int .i64 0] 0))) (n7 + 8) (some (.cells (eng S' q (i + 1)) 0))) j = getH H10 j := fun j hj => by rw [getH_ne _ hj, getH_ne _ hj]
    have e11 := getH_same (hs H10 (n7 + 8) (some (.cells [.bool false, .int .i64 0, .pointer none, .pointer none, .pointer none, .int .i64 0, .int .i64 0, .pointer none, .pointer none, .pointer none, .int .i64 0, .int .i64 0, .int .i64 0, .int .u64 0, .int .u64 0, .int .u64 0, .int .i64 0, .int .i64 0, .int .i64 0, .map none, .map none, .slice none 0 0, .map none, .int .i64 0] 0))) (n7 + 8) (some (.cells (eng S' q (i + 1)) 0))
    revert x11 k11 e11
    generalize Go.Clo.hs _ (n7 + 8) _ = K11
    intro x11 k11 e11
    have hal : (avail c i).length ≤ 1000 := by
      by_cases h : i ≤ 63
      · rw [avail_len_low h]; omega
      · rw [avail_len_high (by omega)]; omega
    refine wCall_rule (reflog9 (i := i) (p2.ext x11) (p3.ext x11) (fun j hj => by rcases hj with (h | h) | h <;> first | omega | (have := (hb10 j h).2; omega)) hal (fun h => by have := avail_last (c := c) (i := i); rw [h] at this; cases this) (fun h => avail_63 c h hCp (by omega)) (by omega) hCle) ?_
    rintro _ H12 n12 ⟨V', P', rfl, hV', hP', x12⟩
    have l12 := x12.le
    rw [keptL_next hCp (by omega), nextK_app hC.low] at hV'
    rw [keptL_next hCp (by omega), show (nextK c i).map c ++ [0] = (avail c (i + 1)).map c by rw [← nextK_app hC.low, List.map_append, List.map_singleton, hC.fut (i + 1) (by omega)]] at hP'
    have g12 : getH H12 n3 = some (.cells (eng S7 r7 i) 0) := by rw [x12.get _ (by omega), k11 _ (by omega)]; exact g10
    have r12 : getH H12 n5 = some (.cells (refC V7 P7 i) 0) := by rw [x12.get _ (by omega), k11 _ (by omega)]; exact r10
    have e12 := (x12.get (n7 + 8) (by omega)).trans e11
    have hx3 : n3 < n12 := by omega
    have hx5 : n5 < n12 := by omega
    have hst12 : C.StoreAt (AvU (VarB n3 n5) n7 n8) bb' (i + 1) S' H12 n12 := C.store_e (C.store_ext hst10 (by omega) fun j hj hA => k11 j fun e => hA (.inr ⟨by omega, by omega⟩)) x12
    have hI12 : IntM H12 q (avail c (i + 1)) (fun u => verV (if u = i + 1 then d' else m7 u) (c u)) := ((hI10.same (k11 q (by omega))).ext (by omega) x12).congr fun v hv => by
      by_cases e : v = i + 1
      · simp only [e, if_true]; rw [hC.fut (i + 1) (by omega)]
      · simp only [e, if_false]
    have hdb12 : ∀ v ∈ avail c (i + 1), C.DbAt (AvB (AvU (VarB n3 n5) n7 n8) bb') v (if v = i + 1 then d' else m7 v) H12 n12 := fun v hv => by
      by_cases e : v = i + 1
      · rw [if_pos e, e]
        exact C.db_e (C.db_ext hdb10 (by omega) fun j hj hA => k11 j fun e => hA (.inl (.inr ⟨by omega, by omega⟩))) x12
      · rw [if_neg e]
        have hv2 : v ∈ avail c i := by
          rw [← nextK_app hC.low] at hv
          rcases List.mem_append.1 hv with h | h
          · exact nextK_sub h
          · exact absurd (List.mem_singleton.1 h) e
        exact C.db_e (C.db_ext (C.db_e (C.db_av (hdb9 v hv2) (Av' := AvB (AvU (VarB n3 n5) n7 n8) bb') fun j hj => by
          rcases hj with h | h
          · exact .inl (.inl h)
          · exact .inr (by have := (hb10 j h).1; omega)) x10) (by omega) fun j hj hA => k11 j fun e => hA (.inl (.inr ⟨by omega, by omega⟩))) x12
    have hLI12 := LI.put (C := C) (Av := AvU (VarB n3 n5) n7 n8) hne hx3 hx5 (fun j hj => .inl hj) (fun b hb => by have := (hb10 b hb).1; omega) hst12 (by omega) (by omega) (by omega) (fun b hb => by have := (hb10 b hb).2; omega) hI12 hdb12 hV' hP'
    have z12 : Ext H nx H12 n12 := ⟨by have := x7.le; omega, fun j hj => (x12.get j (by have := x7.le; omega)).trans ((k11 j (by have := x7.le; omega)).trans ((x10.get j (by have := x7.le; omega)).trans (z9.get j hj)))⟩
    obtain ⟨av, rfl⟩ := hV'.out
    obtain ⟨bv, rfl⟩ := hP'.out
    have hpe : putL (eng S7 r7 i) 0 (eng S' q (i + 1)) = eng S' q (i + 1) := putL_all (by rw [eng_len hS', eng_len hS7])
    unfold refC at hLI12 r12 ⊢
    simp (config := { maxSteps := 2000000 }) (disch := first|omega|assumption) only [W0, oneCells, Yld.val, Nat.reduceAdd, Nat.reduceMul, Nat.reduceLeDiff, g12, r12, e12, eng_all hS', putL_66, hpe, eng_len hS7, eng_len hS']
    have x13 : Ext H nx _ n12 := (z12.hs (i := n3) (b := some (.cells (eng S' q (i + 1)) 0)) (by omega)).hs (i := n5) (b := some (.cells [.int .i64 0, .int .i64 ((i + 1 : Nat) : Int), .int .i64 0, .slice (some ⟨av, 0, none⟩) (avail c (i + 1)).length (avail c (i + 1)).length, .slice (some ⟨bv, 0, none⟩) ((avail c (i + 1)).map c).length ((avail c (i + 1)).map c).length, .bool false] 0)) (by omega)
    revert x13 hLI12
    generalize Go.Clo.hs _ n5 _ = H13
    intro hLI13 x13
    clear hst12 hI12 hdb12 g12 r12 e12 x12 hV' hP' z12
    have hC0 : Cnt c (if i ≤ 40 then 0 else bs.length) (i + 1) := hC.next
    have fin : ∀ (c' : Nat → Nat) H' n', LI C n3 n5 (i + 1) c' H' n' → Cnt c' (if i + 1 ≤ 40 then 0 else bs.length) (i + 1) → Ext H nx H' n' → ih [.int .i64 ((i : Int) + 1)] H' n' := fun c' H' n' h1 h2 h3 =>
      hih (m - 1) _ _ _ (by omega) ⟨i + 1, c', by omega, by simp, h1, h2, h3⟩
    have hN13 : nx ≤ n12 := x13.le
    refine wLoop_rule (fun m L H' n' => ∃ (k : Nat) (c' : Nat → Nat), m + k = bs.length ∧ L = [.int .i64 (k : Int)] ∧ (i ≠ 40 → c' = c) ∧ LI C n3 n5 (i + 1) c' H' n' ∧ (i = 40 → Cnt c' k (i + 1)) ∧ Ext H nx H' n') ?_ (m := bs.length) ⟨0, c, by omega, rfl, fun _ => rfl, hLI13, fun h => by rw [if_pos (by omega)] at hC0; exact hC0, x13⟩
    rintro m2 ih2 L H14 n14 ⟨k, c', hk, rfl, hc', hL14, hC14, x14⟩ hih2
    by_cases hkl : k < bs.length ∧ i = 40
    · obtain ⟨hkl, hi40⟩ := hkl
      have hkl' : (k : Int) < (bs.length : Int) := by omega
      have d40 : decide ((i : Int) = 40) = true := by simp; omega
      have hC' := hC14 hi40
      obtain ⟨bA, oA, row, rfl, hbA, hrow, hget⟩ := hA.open (i := k) (by unfold u8s; rw [List.length_map]; exact hkl)
      have hrow14 : rowOf H14 bA = some row := by rw [x14.row hbA]; exact hrow
      have hx : bs[k]? = some bs[k] := List.getElem?_eq_getElem hkl
      have hx256 := hb _ (List.getElem_mem hkl)
      generalize bs[k] = x at hx hx256
      have hgx : row[oA + k]? = some (.int .u8 (x : Int)) := hget k _ (by unfold u8s; rw [List.getElem?_map, hx]; rfl)
      obtain ⟨_, _, _, bk', hbk, ⟨Sk, rk, mk, e1, e2, e3, e4, e5, er', e6, e7⟩, ⟨Vk, Pk, f1, f2, f3⟩⟩ := id hL14
      have hbk2 := C.store_bb e2
      obtain ⟨hSk, hOk⟩ := C.store_len e2
      have hcx := fun k : VP => convN x .u8 (by omega) k
      have hrx := fun k : VP => remN x 41 .i64 (by omega) k
      rw [show ((41 : Nat) : Int) = 41 from rfl] at hrx
      have hv41 : x % 41 < 41 := Nat.mod_lt _ (by omega)
      rw [wJoin_eq]
      simp (config := { maxSteps := 2000000 }) (disch := first|omega|assumption) only [W0, oneCells, Yld.val, Nat.reduceAdd, Nat.reduceMul, Nat.reduceLeDiff, hkl', d40, ldP_row hrow14, hgx, hcx, hrx, e1, eng_all hSk]
      have hav : avail c' (i + 1) = List.range 42 := by rw [hi40]; exact avail_low (by omega)
      have hvin : x % 41 ∈ avail c' (i + 1) := by rw [hav]; exact List.mem_range.2 (by omega)
      have hcv' : c' (x % 41) ≤ 1000000 := by have := hC'.le (x % 41); omega
      refine wCall_rule (pin10 hcl (l := i + 1) hSk hOk e6 e3 (avail_nodup _ _) hvin hcv') ?_
      rintro _ H15 n15 ⟨q, hq0, hq, rfl, hI15, x15⟩
      have l15 := x15.le
      have hEk := eng_one hOk q (i + 1)
      have f15 := (x15.get n5 (by omega)).trans f1
      have e15 := (x15.get n3 (by omega)).trans e1
      obtain ⟨ak, rfl⟩ := f2.out
      obtain ⟨bk, rfl⟩ := f3.out
      simp (config := { maxSteps := 2000000 }) (disch := first|omega|assumption) only [W0, oneCells, Yld.val, Nat.reduceAdd, Nat.reduceMul, Nat.reduceLeDiff, eng_len hSk, hEk, putL_eng hSk, f15, refC_all]
      have x16 : Ext H14 n14 (hs (hs H15 n15 (some (.cells [.bool false, .int .i64 0, .pointer none, .pointer none, .pointer none, .int .i64 0, .int .i64 0, .pointer none, .pointer none, .pointer none, .int .i64 0, .int .i64 0, .int .i64 0, .int .u64 0, .int .u64 0, .int .u64 0, .int .i64 0, .int .i64 0, .int .i64 0, .map none, .map none, .slice none 0 0, .map none, .int .i64 0] 0))) n15 (some (.cells (eng Sk q (i + 1)) 0))) (n15 + 1) := (x15.new (m := n15 + 1) (i := n15) _ (by omega) (by omega)).hs (by omega)
      have k16 : ∀ j, j ≠ n15 → getH (hs (hs H15 n15 (some (.cells [.bool false, .int .i64 0, .pointer none, .pointer none, .pointer none, .int .i64 0, .int .i64 0, .pointer none, .pointer none, .pointer none, .int .i64 0, .int .i64 0, .int .i64 0, .int .u64 0, .int .u64 0, .int .u64 0, .int .i64 0, .int .i64 0, .int .i64 0, .map none, .map none, .slice none 0 0, .map none, .int .i64 0] 0))) n15 (some (.cells (eng Sk q (i + 1)) 0))) j = getH H15 j := fun j hj => by rw [getH_ne _ hj, getH_ne _ hj]
      have e16 := getH_same (hs H15 n15 (some (.cells [.bool false, .int .i64 0, .pointer none, .pointer none, .pointer none, .int .i64 0, .int .i64 0, .pointer none, .pointer none, .pointer none, .int .i64 0, .int .i64 0, .int .i64 0, .int .u64 0, .int .u64 0, .int .u64 0, .int .i64 0, .int .i64 0, .int .i64 0, .map none, .map none, .slice none 0 0, .map none, .int .i64 0] 0))) n15 (some (.cells (eng Sk q (i + 1)) 0))
      revert x16 k16 e16
      generalize Go.Clo.hs _ n15 _ = K16
      intro x16 k16 e16
      have hlt3 := hL14.ltx
      have hlt5 := hL14.ltr
      refine wCall_rule (refpin11 (i := i + 1) (v := x % 41) (f2.ext x16) (f3.ext x16) (fun j hj => by rcases hj with (h | h) | h <;> first | omega | (have := (hbk2 j h).1; omega)) (by rw [hav, List.length_range]; omega) (avail_nodup _ _) hvin hcv') ?_
      rintro _ H17 n17 ⟨P17, rfl, hP17, x17⟩
      have l17 := x17.le
      have e17 := (x17.get n15 (by omega)).trans e16
      have g17 : getH H17 n3 = some (.cells (eng Sk rk (i + 1)) 0) := by rw [x17.get _ (by omega), k16 _ (by omega)]; exact e15
      have r17 := (x17.get n5 (by omega)).trans ((k16 n5 (by omega)).trans f15)
      obtain ⟨ck, rfl⟩ := hP17.out
      have hpk : putL (eng Sk rk (i + 1)) 0 (eng Sk q (i + 1)) = eng Sk q (i + 1) := putL_all (by rw [eng_len hSk, eng_len hSk])
      unfold refC at r17 ⊢
      simp (config := { maxSteps := 2000000 }) (disch := first|omega|assumption) only [W0, oneCells, Yld.val, Nat.reduceAdd, Nat.reduceMul, Nat.reduceLeDiff, wLd6, d0, putL_66, wLd_24, e17, g17, r17, eng_all hSk, cellP_6, eng_len hSk, hEk, hpk]
      rw [wJoin_eq]
      generalize hK18 : Go.Clo.hs (Go.Clo.hs H17 n17 _) n17 _ = K18
      have x18 : Ext H17 n17 K18 (n17 + 1) := by rw [← hK18]; exact ((Ext.refl _ _).new _ (Nat.le_refl _) (by omega)).hs (by omega)
      have r18 := congrArg (fun K => getH K n17) hK18.symm
      simp only [getH_same] at r18
      clear hK18
      have z18 : Ext H14 n14 K18 (n17 + 1) := (x16.trans x17).trans x18
      have e18 := (x18.get n15 (by omega)).trans e17
      have g18 := (x18.get n3 (by omega)).trans g17
      have s18 := (x18.get n5 (by omega)).trans r17
      have l14 := x14.le
      have hav' : avail (bump c' (x % 41)) (i + 1) = avail c' (i + 1) := by rw [hav, hi40]; exact avail_low (by omega)
      have lA : LI C n3 n5 (i + 1) (bump c' (x % 41)) (hs (hs K18 n3 (some (.cells (eng Sk q (i + 1)) 0))) n5 (some (.cells (refC (.slice (some ⟨ak, 0, none⟩) (avail c' (i + 1)).length (avail c' (i + 1)).length) (.slice (some ⟨ck, 0, none⟩) ((avail c' (i + 1)).map (bump c' (x % 41))).length ((avail c' (i + 1)).map (bump c' (x % 41))).length) (i + 1)) 0))) (n17 + 1) :=
        LI.put (C := C) (Av := VarB n3 n5) (S := Sk) (q := q) (m := mk) hne (by omega) (by omega) (fun j hj => hj) hbk (C.store_e e2 z18) (by omega) (by omega) (by omega) (fun b hb => by have := (hbk2 b hb).1; omega) (by rw [hav']; exact ((hI15.same (k16 q (by omega))).ext (by omega) x17).ext (by omega) x18) (fun u hu => C.db_e (e7 u (by rw [hav'] at hu; exact hu)) z18) (by rw [hav']; exact f2.ext z18) (by rw [hav']; exact hP17.ext x18)
      unfold refC at lA
      simp (config := { maxSteps := 2000000 }) (disch := first|omega|assumption) only [W0, oneCells, Yld.val, Nat.reduceAdd, Nat.reduceMul, Nat.reduceLeDiff, r18, e18, g18, s18, hEk, eng_all hSk, cellP_6, eng_len hSk, hpk, putL_66, wLd_24, wLd6]
      exact hih2 (m2 - 1) _ _ _ (by omega) ⟨k + 1, bump c' (x % 41), by omega, by simp, fun h => absurd hi40 h, lA.keep ((Ext.refl _ _).more (by omega)), fun _ => hC'.bump hv41 (by omega), (((x14.trans z18).hs (by omega)).hs (by omega)).more (by omega)⟩
    · rw [wJoin_eq]
      have hfin : ih [.int .i64 ((i : Int) + 1)] H14 n14 := by
        refine fin c' H14 n14 hL14 ?_ x14
        by_cases hi40 : i = 40
        · have hkk : k = bs.length := by omega
          rw [if_neg (by omega), ← hkk]
          exact hC14 hi40
        · rw [hc' hi40]
          by_cases h : i ≤ 40
          · rw [if_pos h] at hC0; rw [if_pos (by omega)]; exact hC0
          · rw [if_neg h] at hC0; rw [if_neg (by omega)]; exact hC0
      by_cases hkl2 : k < bs.length
      · have hkl' : (k : Int) < (bs.length : Int) := by omega
        have d40 : decide ((i : Int) = 40) = false := by simp; omega
        simp (config := { maxSteps := 2000000 }) (disch := first|omega|assumption) only [W0, oneCells, Yld.val, Nat.reduceAdd, Nat.reduceMul, Nat.reduceLeDiff, hkl', d40]
        exact hfin
      · have hkl' : ¬ (k : Int) < (bs.length : Int) := by omega
        simp (config := { maxSteps := 2000000 }) (disch := first|omega|assumption) only [W0, oneCells, Yld.val, Nat.reduceAdd, Nat.reduceMul, Nat.reduceLeDiff, hkl']
        exact hfin
  · have hi' : ¬ (i : Int) < 64 + ((many % 30 : Nat) : Int) := by omega
    have hiN : i = 64 + many % 30 := by omega
    simp (config := { maxSteps := 2000000 }) (disch := first|omega|assumption) only [W0, oneCells, Yld.val, Nat.reduceAdd, Nat.reduceMul, Nat.reduceLeDiff, hr30, hcv, hi']
    have hav : (avail c i).length ≤ 100000 := by
      have := hC.num
      have h20 : (pinned c).length ≤ 20 := by split at this <;> omega
      rw [avail_len_high (by omega)]; omega
    refine wLoop_rule (fun m L H' n' => ∃ v : Nat, m + v = i + 1 ∧ L = [.int .i64 (v : Int)] ∧ LI C n3 n5 i c H' n') ?_ (m := i + 1) ⟨0, by omega, rfl, hL⟩
    rintro m2 ih2 L H14 n14 ⟨v, hv, rfl, hL14⟩ hih2
    obtain ⟨_, hlt3, hlt5, bk', hbk, ⟨Sk, rk, mk, e1, e2, e3, e4, e5, er', e6, e7⟩, ⟨Vk, Pk, f1, f2, f3⟩⟩ := id hL14
    obtain ⟨hSk, hOk⟩ := C.store_len e2
    obtain ⟨ak, rfl⟩ := f2.out
    obtain ⟨bk, rfl⟩ := f3.out
    by_cases hvi : v < i + 1
    · have hle : (v : Int) ≤ (i : Int) := by omega
      have f1u := f1
      unfold refC at f1u
      simp (config := { maxSteps := 2000000 }) (disch := first|omega|assumption) only [W0, oneCells, Yld.val, Nat.reduceAdd, Nat.reduceMul, Nat.reduceLeDiff, f1u, hle, wLd_24, e1, eng_all hSk]
      refine wCall_rule (database12 (v := v) hSk hOk e6 e3) ?_
      rintro y H15 n15 ⟨y1, y2, x15⟩
      have l15 := x15.le
      have f15 := (x15.get n5 (by omega)).trans f1
      by_cases hmem : v ∈ avail c i
      · rw [y1 hmem]
        simp (config := { maxSteps := 2000000 }) (disch := first|omega|assumption) only [W0, oneCells, Yld.val, Nat.reduceAdd, Nat.reduceMul, Nat.reduceLeDiff, putL_lit1]
        rw [wJoin_eq]
        generalize hK16 : Go.Clo.hs (Go.Clo.hs H15 n15 _) n15 _ = K16
        have x16 : Ext H15 n15 K16 (n15 + 1) := by rw [← hK16]; exact ((Ext.refl _ _).new _ (Nat.le_refl _) (by omega)).hs (by omega)
        have d16 := congrArg (fun K => getH K n15) hK16.symm
        simp only [getH_same] at d16
        clear hK16
        have f16 := (x16.get n5 (by omega)).trans f15
        have z16 := x15.trans x16
        simp (config := { maxSteps := 2000000 }) (disch := first|omega|assumption) only [W0, oneCells, Yld.val, Nat.reduceAdd, Nat.reduceMul, Nat.reduceLeDiff, wLd6, f16, refC_all]
        refine wCall_rule (find13 (f2.ext z16) (f3.ext z16) hav) ?_
        rintro y H17 n17 ⟨w1, w2, x17⟩
        obtain ⟨j, rfl, hj⟩ := w1 hmem
        have l17 := x17.le
        have f17 := (x17.get n5 (by omega)).trans f16
        have hj0 : ¬ (j : Int) < 0 := by omega
        have hj1 : (0 : Int) ≤ (j : Int) := by omega
        simp (config := { maxSteps := 2000000 }) (disch := first|omega|assumption) only [W0, oneCells, Yld.val, Nat.reduceAdd, Nat.reduceMul, Nat.reduceLeDiff, hj0, wLd6, f17, refC_all]
        refine wCall_rule (find13 ((f2.ext z16).ext x17) ((f3.ext z16).ext x17) hav) ?_
        rintro y H18 n18 ⟨w1, w2, x18⟩
        obtain ⟨j', rfl, hj'⟩ := w1 hmem
        have l18 := x18.le
        have hj1 : (0 : Int) ≤ (j' : Int) := by omega
        have d0 : decide ((0 : Int) ≠ 0) = false := rfl
        have d18 := (x18.get n15 (by omega)).trans ((x17.get n15 (by omega)).trans d16)
        simp (config := { maxSteps := 2000000 }) (disch := first|omega|assumption) only [W0, oneCells, Yld.val, Nat.reduceAdd, Nat.reduceMul, Nat.reduceLeDiff, hj1, d0, wLd_1, d18, cellP_11]
        refine wCall_rule (C.rows (by omega) (C.db_e (e7 v hmem) ((z16.trans x17).trans x18))) ?_
        rintro _ H19 n19 ⟨rfl, x19⟩
        have dv : decide ((v : Int) ≠ (v : Int)) = false := by simp
        simp (config := { maxSteps := 2000000 }) (disch := first|omega|assumption) only [W0, oneCells, Yld.val, Nat.reduceAdd, Nat.reduceMul, Nat.reduceLeDiff, dv]
        exact hih2 (m2 - 1) _ _ _ (by omega) ⟨v + 1, by omega, by simp, hL14.keep (((z16.trans x17).trans x18).trans x19)⟩
      · obtain ⟨dd, rfl, hdd⟩ := y2 hmem
        simp (config := { maxSteps := 2000000 }) (disch := first|omega|assumption) only [W0, oneCells, Yld.val, Nat.reduceAdd, Nat.reduceMul, Nat.reduceLeDiff, putL_lit1, hdd]
        rw [wJoin_eq]
        generalize hK16 : Go.Clo.hs (Go.Clo.hs H15 n15 _) n15 _ = K16
        have x16 : Ext H15 n15 K16 (n15 + 1) := by rw [← hK16]; exact ((Ext.refl _ _).new _ (Nat.le_refl _) (by omega)).hs (by omega)
        clear hK16
        have f16 := (x16.get n5 (by omega)).trans f15
        have z16 := x15.trans x16
        simp (config := { maxSteps := 2000000 }) (disch := first|omega|assumption) only [W0, oneCells, Yld.val, Nat.reduceAdd, Nat.reduceMul, Nat.reduceLeDiff, wLd6, f16, refC_all]
        refine wCall_rule (find13 (f2.ext z16) (f3.ext z16) hav) ?_
        rintro y H17 n17 ⟨w1, w2, x17⟩
        rw [w2 hmem]
        have l17 := x17.le
        have f17 := (x17.get n5 (by omega)).trans f16
        have hj0 : (-1 : Int) < 0 := by omega
        have d31 : decide ((31 : Int) ≠ 31) = false := rfl
        simp (config := { maxSteps := 2000000 }) (disch := first|omega|assumption) only [W0, oneCells, Yld.val, Nat.reduceAdd, Nat.reduceMul, Nat.reduceLeDiff, hj0, d31, wLd6, f17, refC_all]
        refine wCall_rule (find13 ((f2.ext z16).ext x17) ((f3.ext z16).ext x17) hav) ?_
        rintro y H18 n18 ⟨w1, w2, x18⟩
        rw [w2 hmem]
        have hj1 : ¬ (0 : Int) ≤ -1 := by omega
        simp (config := { maxSteps := 2000000 }) (disch := first|omega|assumption) only [W0, oneCells, Yld.val, Nat.reduceAdd, Nat.reduceMul, Nat.reduceLeDiff, hj1]
        exact hih2 (m2 - 1) _ _ _ (by omega) ⟨v + 1, by omega, by simp, hL14.keep ((z16.trans x17).trans x18)⟩
    · have hle : ¬ (v : Int) ≤ (i : Int) := by omega
      have f1u := f1
      unfold refC at f1u
      simp (config := { maxSteps := 2000000 }) (disch := first|omega|assumption) only [W0, oneCells, Yld.val, Nat.reduceAdd, Nat.reduceMul, Nat.reduceLeDiff, f1u, hle, wLd_24, e1, eng_all hSk]
      refine wCall_rule (version15 hSk hOk) ?_
      rintro _ H15 n15 ⟨rfl, x15⟩
      have f15 := (x15.get n5 (by omega)).trans f1u
      simp (config := { maxSteps := 2000000 }) (disch := first|omega|assumption) only [W0, oneCells, Yld.val, Nat.reduceAdd, Nat.reduceMul, Nat.reduceLeDiff, f15, f1u, e1, wLd_24, eng_all hSk]
end Go.Proofs.YtbmiedinclieaaaGreatDoor
