/-
  The closed runs, used beside other blocks: what the open part of the law leans on.
-/
import Derived.Test.YtbmiedinclieaaaGreatDoorU13
import Derived.Test.YtbmiedinclieaaaGreatDoorU19
import Derived.Test.YtbmiedinclieaaaGreatDoorU20
import Derived.Test.YtbmiedinclieaaaGreatDoorU21
import Derived.Test.YtbmiedinclieaaaGreatDoorU22
import Derived.Test.YtbmiedinclieaaaGreatDoorU23
import Derived.Test.YtbmiedinclieaaaGreatDoorU24
import Derived.Test.YtbmiedinclieaaaGreatDoorU25
import Derived.Test.YtbmiedinclieaaaGreatDoorU7
set_option linter.all false
namespace Go.Proofs.YtbmiedinclieaaaGreatDoor
open Go.Clo

theorem log_true {i : Nat} (h : i < 93) : logC i = true := by
  by_cases h1 : i < 28
  · exact logs0 (by omega) h1
  by_cases h2 : i < 46
  · exact logs1 (by omega) h2
  by_cases h3 : i < 60
  · exact logs2 (by omega) h3
  by_cases h4 : i < 72
  · exact logs3 (by omega) h4
  by_cases h5 : i < 83
  · exact logs4 (by omega) h5
  · exact logs5 (by omega) h
theorem app_true {i : Nat} (h : i < 93) : appC i = true := apps (by omega) h
theorem row_true {i : Nat} (h : i ≤ 93) : rowC i = true := rowss (by omega) (by omega)
/-- A written heap lies in the heap, but not in the blocks that Av names. -/
def In0 (Av : Nat → Prop) (l : Go.Clo.Lit) (n : Nat) (ρ : Nat → Nat) (H : Heap) (nx : Nat) : Prop := Emb ρ (mkH l) n H nx ∧ ∀ j, j < n → ¬ Av (ρ j)
theorem In0.ext {Av : Nat → Prop} {l : Go.Clo.Lit} {n : Nat} {ρ : Nat → Nat} {H : Heap} {nx : Nat} {H' : Heap} {nx' : Nat} (h : In0 Av l n ρ H nx) (hle : nx ≤ nx') (e : ∀ j, j < nx → ¬ Av j → getH H' j = getH H j) : In0 Av l n ρ H' nx' :=
  ⟨h.1.step hle fun i b hb => e _ (h.1.lt i (h.1.low hb)) (h.2 i (h.1.low hb)), h.2⟩
theorem In0.av {Av Av' : Nat → Prop} {l : Go.Clo.Lit} {n : Nat} {ρ : Nat → Nat} {H : Heap} {nx : Nat} (h : In0 Av l n ρ H nx) (e : ∀ j, Av' j → Av j ∨ nx ≤ j) : In0 Av' l n ρ H nx :=
  ⟨h.1, fun j hj ha => (e _ ha).elim (h.2 j hj) fun g => by have := h.1.lt j hj; omega⟩
/-- The row of the batches. -/
def bbO : Nat → (Nat → Nat) → Option Nat
  | 0, _ => none
  | _ + 1, ρ => some (ρ 5)
def StoreC (Av : Nat → Prop) (bb : Option Nat) (i : Nat) (S : List Value) (H : Heap) (nx : Nat) : Prop := ∃ ρ, In0 Av (lS i) (nS i) ρ H nx ∧ S = renL ρ (sS i) ∧ bb = bbO i ρ
def DbC (Av : Nat → Prop) (i d : Nat) (H : Heap) (nx : Nat) : Prop := ∃ ρ, In0 Av (lD i) (nD i) ρ H nx ∧ d = ρ 0
theorem oneCells_ren (ρ : Nat → Nat) : ∀ l : List Value, oneCells (renL ρ l) = oneCells l
  | [] => rfl
  | v :: l => by
    have ih := oneCells_ren ρ l
    rw [renL]
    cases v <;> (rw [ren]; first | rfl | exact ih)
theorem renL_congr {ρ ρ' : Nat → Nat} {n k : Nat} (hρ : ∀ i, i < n → ρ i = ρ' i) {l : List Value} (h : l.all (lowV k n) = true) : renL ρ l = renL ρ' l := by
  rw [renL_map, renL_map]
  exact List.map_congr_left fun v hv => ren_congr hρ k (List.all_eq_true.1 h v hv)
theorem ren_rowB (ρ : Nat → Nat) (i sl : Nat) : renB ρ (.cells (rowV i) sl) = .cells (rowV i) sl := by simp [renB, rowV, renL, ren]
/-- The update's blocks beside a written heap. -/
theorem upd_emb {Av : Nat → Prop} {l : Go.Clo.Lit} {n i : Nat} {ρ : Nat → Nat} {U : Value} {H : Heap} {nx : Nat} (h : In0 Av l n ρ H nx) (hu : UpdAt Av i U H nx) :
    ∃ ρ2 : Nat → Nat, Emb ρ2 (uH (mkH l) n i) (n + 2) H nx ∧ (∀ j, j < n → ρ2 j = ρ j) ∧ U = ren ρ2 (slV (n + 1) 1) := by
  obtain ⟨a, b, ha, hb, va, vb, hab, rfl, ga, gb⟩ := hu
  have e1 := h.1.add ha (fun j hj e => h.2 j hj (e ▸ va)) (b := .cells (rowV i) 0) (by simp [lowB, rowV, lowV]) (by rw [ren_rowB]; exact ga)
  have g1 : addρ ρ n a n = a := by simp [addρ]
  have e2 := e1.add hb (fun j hj e => by
    by_cases g : j < n
    · rw [addρ_lt ρ g] at e; exact h.2 j g (e ▸ vb)
    · have : j = n := by omega
      subst this
      rw [g1] at e; exact hab e) (b := .cells (updV n) 0) (by simp [lowB, updV, lowV, Nat.blt_eq]) (by
    rw [gb]; simp [renB, updV, renL, ren, renP, g1])
  refine ⟨_, e2, fun j hj => by rw [addρ_lt _ (by omega), addρ_lt _ hj], ?_⟩
  simp [slV, ren, renP, addρ]
theorem logK_inv {i : Nat} {v : Value} {H1 : Heap} {n1 : Nat} (h : logK i v H1 n1 = true) : ∃ S', v = .tuple ⟨[.agg ⟨S'⟩, .int .i64 0]⟩ ∧ batOK (nS i + 2) S' = true ∧ cutOK (lS (i + 1)) (nS (i + 1)) (sS (i + 1)) S' H1 n1 (nS i) (nS i + 2) = true := by
  unfold logK at h
  split at h
  · exact ⟨_, rfl, (Bool.and_eq_true _ _ ▸ h).1, (Bool.and_eq_true _ _ ▸ h).2⟩
  · cases h
theorem appK_inv {i : Nat} {v : Value} {H1 : Heap} {n1 : Nat} (h : appK i v H1 n1 = true) : ∃ d n, v = .tuple ⟨[.agg ⟨[.map (some d)]⟩, .int .i64 n, .int .i64 0]⟩ ∧ cutOK (lD (i + 1)) (nD (i + 1)) [.map (some 0)] [.map (some d)] H1 n1 (nD i) (nD i + 2) = true := by
  unfold appK at h
  split at h
  · exact ⟨_, _, rfl, h⟩
  · cases h
theorem rowK1_inv {i : Nat} {v : Value} {H1 : Heap} {n1 : Nat} (h : rowK1 i v H1 n1 = true) : v = .int .i64 (i : Int) := by
  unfold rowK1 at h
  split at h
  · rw [Nat.eq_of_beq_eq_true h]; rfl
  · cases h
theorem av_new {Av : Nat → Prop} {n n2 nx : Nat} {ρ ρ2 s : Nat → Nat} {N : Nat} (hAv : ∀ j, Av j → j < nx) (h2 : n2 = n + 2) (hρ : ∀ j, j < n → ρ2 j = ρ j) (hav : ∀ j, j < n → ¬ Av (ρ j)) {n1 : Nat} (hs : ∀ i, i < N → s i < n1 ∧ (s i < n ∨ n2 ≤ s i)) : ∀ j, j < N → ¬ Av (newρ ρ2 n2 nx (s j)) := by
  intro j hj ha
  rcases (hs j hj).2 with g | g
  · unfold newρ at ha
    rw [if_pos (by omega), hρ _ g] at ha
    exact hav _ g ha
  · unfold newρ at ha
    rw [if_neg (by omega)] at ha
    have := hAv _ ha
    omega
theorem bat_new {a i : Nat} {S' : List Value} {τ σ : Nat → Nat} (h : batOK a S' = true) (e : renL τ S' = renL σ (sS (i + 1))) : ∃ b, a ≤ b ∧ τ b = σ 5 := by
  unfold batOK at h
  split at h
  · rename_i b n c hd
    refine ⟨b, Nat.le_of_ble_eq_true h, ?_⟩
    have e2 := congrArg (List.drop 15) e
    rw [renL_map, ← List.map_drop, hd, renL_map, ← List.map_drop] at e2
    simp [sS, slV, ren, renP] at e2
    exact e2.1
  · cases h
theorem log_c {Av : Nat → Prop} {bb : Option Nat} {i : Nat} {S : List Value} {U : Value} {H : Heap} {nx : Nat} (hi : i < 93) (hAv : ∀ j, Av j → j < nx) (hst : StoreC Av bb i S H nx) (hu : UpdAt Av i U H nx) :
    Ans Tryz.prog 30 [.agg ⟨S⟩, U] H nx fun v H' nx' => ∃ S' bb', v = .tuple ⟨[.agg ⟨S'⟩, .int .i64 0]⟩ ∧ StoreC Av bb' (i + 1) S' H' nx' ∧ (∀ b, bb' = some b → nx ≤ b) ∧ Ext (kl H bb) nx H' nx' := by
  obtain ⟨ρ, h0, rfl, rfl⟩ := hst
  obtain ⟨ρ2, he2, hρ, rfl⟩ := upd_emb h0 hu
  have ht := log_true hi
  unfold logC at ht
  cases hlow : (sS i).all (lowV 15 (nS i)) with
  | false => rw [hlow] at ht; cases ht
  | true =>
    rw [hlow, cond_true] at ht
    have hl15 : (sS i).all (lowV 15 (nS i + 2)) = true := by
      rw [List.all_eq_true] at hlow ⊢
      exact fun v hv => lowV_mono (by omega) 15 (hlow v hv)
    have hargs : ([.agg ⟨sS i⟩, slV (nS i + 1) 1] : List Value).all (lowV 16 (nS i + 2)) = true := by
      simp only [List.all_cons, List.all_nil, Bool.and_true, Bool.and_eq_true]
      exact ⟨hl15, by simp [slV, lowV, Nat.blt_eq]⟩
    have q : renL ρ2 [.agg ⟨sS i⟩, slV (nS i + 1) 1] = [.agg ⟨renL ρ (sS i)⟩, ren ρ2 (slV (nS i + 1) 1)] := by
      rw [renL, renL, renL, ren, renA, renL_congr hρ hlow]
    have fin : ∀ {v : Value} {H1 : Heap} {n1 : Nat} {H' : Heap} {nx' : Nat}, logK i v H1 n1 = true → CS Tryz.prog 30 (renL ρ2 [.agg ⟨sS i⟩, slV (nS i + 1) 1]) H nx (ren (newρ ρ2 (nS i + 2) nx) v) H' nx' → Emb (newρ ρ2 (nS i + 2) nx) H1 n1 H' nx' → Ext (kl H (bbO i ρ)) nx H' nx' →
        Ans Tryz.prog 30 [.agg ⟨renL ρ (sS i)⟩, ren ρ2 (slV (nS i + 1) 1)] H nx fun v H' nx' => ∃ S' bb', v = .tuple ⟨[.agg ⟨S'⟩, .int .i64 0]⟩ ∧ StoreC Av bb' (i + 1) S' H' nx' ∧ (∀ b, bb' = some b → nx ≤ b) ∧ Ext (kl H (bbO i ρ)) nx H' nx' := by
      intro v H1 n1 H' nx' hk h1 h4 hx
      obtain ⟨S', rfl, hbat, hcut⟩ := logK_inv hk
      obtain ⟨s, e1, e2, e3⟩ := cutOK_emb hcut h4
      rw [q] at h1
      refine ⟨_, _, _, h1, renL (newρ ρ2 (nS i + 2) nx) S', some (newρ ρ2 (nS i + 2) nx (s 5)), by simp [ren, renA, renL], ⟨_, ⟨e1, av_new hAv rfl hρ h0.2 e3⟩, e2, rfl⟩, fun b hb => ?_, hx⟩
      obtain ⟨b', hb', hbe⟩ := bat_new hbat e2
      cases hb
      rw [← hbe]
      unfold newρ
      rw [if_neg (by omega)]
      omega
    cases hz : Nat.beq i 0 with
    | true =>
      rw [hz, cond_true] at ht
      have hi0 := Nat.eq_of_beq_eq_true hz
      obtain ⟨v, H1, n1, hcs, ha, hk⟩ := stepC_inv mixed namesOK orc0_ok dok_ok ht
      obtain ⟨H', nx', h1, h2, h3, h4⟩ := Adds.emb hcs ha he2 hargs
      refine fin hk h1 h4 ?_
      subst hi0
      exact ⟨h2, h3⟩
    | false =>
      rw [hz, cond_false] at ht
      obtain ⟨k, rfl⟩ : ∃ k, i = k + 1 := by
        cases i with
        | zero => cases hz
        | succ k => exact ⟨k, rfl⟩
      have h5 : 5 < nS (k + 1) := by show 5 < 139 + 2 * (k + 1); omega
      obtain ⟨v, H1, n1, hcs, ha, hk⟩ := stepK_inv mixed namesOK orc0_ok dok_ok ht
      obtain ⟨H', nx', h1, h2, h3, h4⟩ := Adds.kill (by omega) hcs ha he2 hargs
      refine fin hk h1 h4 ⟨h2, fun j hj => ?_⟩
      rw [h3 j hj, hρ 5 h5]
      rfl
theorem app_c {Av : Nat → Prop} {i d : Nat} {U : Value} {H : Heap} {nx : Nat} (hi : i < 93) (hAv : ∀ j, Av j → j < nx) (hst : DbC Av i d H nx) (hu : UpdAt Av i U H nx) :
    Ans Tryz.prog 68 [.agg ⟨[.map (some d)]⟩, U] H nx fun v H' nx' => ∃ d' n, v = .tuple ⟨[.agg ⟨[.map (some d')]⟩, .int .i64 n, .int .i64 0]⟩ ∧ DbC Av (i + 1) d' H' nx' ∧ Ext H nx H' nx' := by
  obtain ⟨ρ, h0, rfl⟩ := hst
  obtain ⟨ρ2, he2, hρ, rfl⟩ := upd_emb h0 hu
  have ht := app_true hi
  unfold appC at ht
  obtain ⟨v, H1, n1, hcs, ha, hk⟩ := stepC_inv mixed namesOK orc0_ok dok_ok ht
  obtain ⟨d', n, rfl, hcut⟩ := appK_inv hk
  have hpos : 0 < nD i := by cases i <;> (simp only [nD]; omega)
  obtain ⟨H', nx', h1, h2, h3, h4⟩ := Adds.emb hcs ha he2 (by simp [slV, lowV, Nat.blt_eq])
  obtain ⟨s, e1, e2, e3⟩ := cutOK_emb hcut h4
  have q : renL ρ2 [.agg ⟨[.map (some 0)]⟩, slV (nD i + 1) 1] = [.agg ⟨[.map (some (ρ 0))]⟩, ren ρ2 (slV (nD i + 1) 1)] := by
    simp [renL, ren, renA, hρ 0 hpos]
  rw [q] at h1
  have e4 : newρ ρ2 (nD i + 2) nx d' = newρ ρ2 (nD i + 2) nx (s 0) := by
    simp only [renL, ren, Option.map_some, List.cons.injEq, Value.map.injEq, Option.some.injEq, and_true] at e2
    exact e2
  refine ⟨_, _, _, h1, newρ ρ2 (nD i + 2) nx d', n, by simp [ren, renA, renL], ⟨_, ⟨e1, av_new hAv rfl hρ h0.2 e3⟩, e4⟩, ⟨h2, h3⟩⟩
theorem row_c {Av : Nat → Prop} {i d : Nat} {H : Heap} {nx : Nat} (hi : i ≤ 93) (hst : DbC Av i d H nx) : Ans Tryz.prog 14 [.agg ⟨[.map (some d)]⟩] H nx fun v H' nx' => v = .int .i64 (i : Int) ∧ Ext H nx H' nx' := by
  obtain ⟨ρ, h0, rfl⟩ := hst
  have ht := row_true hi
  unfold rowC at ht
  obtain ⟨v, H1, n1, hcs, ha, hk⟩ := stepC_inv mixed namesOK orc0_ok dok_ok ht
  have hv := rowK1_inv hk
  subst hv
  have hpos : 0 < nD i := by cases i <;> (simp only [nD]; omega)
  obtain ⟨H', nx', h1, h2, h3, h4⟩ := Adds.emb hcs ha h0.1 (by simp [lowV, Nat.blt_eq, hpos])
  have q : renL ρ [.agg ⟨[.map (some 0)]⟩] = [.agg ⟨[.map (some (ρ 0))]⟩] := by simp [renL, ren, renA]
  rw [q] at h1
  exact ⟨_, _, _, h1, by rw [ren], ⟨h2, h3⟩⟩
theorem renL_append (ρ : Nat → Nat) (a b : List Value) : renL ρ (a ++ b) = renL ρ a ++ renL ρ b := by rw [renL_map, renL_map, renL_map, List.map_append]
/-- The store's cells in what Create answers. -/
def cCS : List Value := ((match cCV with
  | .tuple ⟨.agg ⟨l⟩ :: _⟩ => l
  | _ => []).drop 6).take 16
theorem cCV_is : cCV = .tuple ⟨[.agg ⟨.bool true :: .int .i64 0 :: .pointer none :: .pointer none :: .pointer none :: .int .i64 0 :: (cCS ++ ([.map (some 12680), .int .i64 0] : List Value))⟩, .int .i64 0]⟩ := by kernel_rfl
set_option maxRecDepth 1000000 in
theorem cut_s : cutOK (lS 0) (nS 0) (sS 0) cCS (mkH (cCL ++ cCP)) cCN 0 0 = true := by kernel_rfl
set_option maxRecDepth 1000000 in
theorem cut_d : cutOK (lD 0) (nD 0) [.map (some 0)] [.map (some 5)] (mkH (cCL ++ cCP)) cCN 0 0 = true := by kernel_rfl
set_option maxRecDepth 1000000 in
theorem at_v : (match getH (mkH (cCL ++ cCP)) 12680 with
  | some b => beqB b (.map [⟨.int .i64 0, .agg ⟨[.map (some 5), .int .i64 0]⟩, 0⟩] 1)
  | none => false) = true := by kernel_rfl
theorem at_v_is : getH (mkH (cCL ++ cCP)) 12680 = some (.map [⟨.int .i64 0, .agg ⟨[.map (some 5), .int .i64 0]⟩, 0⟩] 1) := by
  have h := at_v
  split at h
  · rename_i b hb
    rw [hb, beqB_eq h]
  · cases h
theorem create_c {p q : Nat} {H : Heap} {nx : Nat} (hp : p < nx) (hq : q < nx) (hne : p ≠ q) (gq : getH H q = some (.cells [.int .i64 1] 0)) (gp : getH H p = some (.cells [.string ⟨#[114]⟩, .slice (some ⟨q, 0, none⟩) 1 1] 0)) :
    Ans Tryz.prog 5 [.slice (some ⟨p, 0, none⟩) 1 1] H nx fun v H' nx' => ∃ S r d, v = .tuple ⟨[.agg ⟨eng S r 0⟩, .int .i64 0]⟩ ∧ StoreC (fun _ => False) none 0 S H' nx' ∧ DbC (fun _ => False) 0 d H' nx' ∧ nx ≤ r ∧ r < nx' ∧ IntM H' r [0] (fun _ => verV d 0) ∧ Ext H nx H' nx' := by
  have r0 : (fun i : Nat => if i = 0 then p else q) 0 = p := rfl
  have r1 : (fun i : Nat => if i = 0 then p else q) 1 = q := rfl
  generalize hρ : (fun i : Nat => if i = 0 then p else q) = ρ at r0 r1
  have he : Emb ρ (mkH cCP) 2 H nx := by
    refine ⟨fun i hi => ?_, fun i j hi hj hij => ?_, fun i b hb => ?_, fun i hi => ?_⟩
    · have : i = 0 ∨ i = 1 := by omega
      rcases this with rfl | rfl
      · rw [r0]; exact hp
      · rw [r1]; exact hq
    · have h1 : i = 0 ∨ i = 1 := by omega
      have h2 : j = 0 ∨ j = 1 := by omega
      rcases h1 with rfl | rfl <;> rcases h2 with rfl | rfl
      · rfl
      · rw [r0, r1] at hij; exact absurd hij hne
      · rw [r0, r1] at hij; exact absurd hij.symm hne
      · rfl
    · unfold cCP at hb
      rw [mkH_cons, mkH_cons] at hb
      by_cases h0 : i = 0
      · subst h0
        rw [if_pos rfl] at hb
        cases hb
        rw [r0, gp]
        exact ⟨by simp [renB, renL, ren, renP, r1], by simp [lowB, lowV, Nat.blt_eq]⟩
      · rw [if_neg h0] at hb
        by_cases h1 : i = 1
        · subst h1
          rw [if_pos rfl] at hb
          cases hb
          rw [r1, gq]
          exact ⟨by simp [renB, renL, ren], by simp [lowB, lowV]⟩
        · rw [if_neg h1, show mkH [] = Heap.leaf from rfl, getH_leaf] at hb
          cases hb
    · unfold cCP
      rw [mkH_cons, mkH_cons, if_neg (by show i ≠ 0; omega), if_neg (by show i ≠ 1; omega), show mkH [] = Heap.leaf from rfl, getH_leaf]
  have hcs := litRun_cs mixed namesOK orc0_ok dok_ok rcC
  obtain ⟨H', nx', h1, h2, h3, h4⟩ := Adds.emb hcs (lit_adds fcC) he (by simp [cCA, lowV, Nat.blt_eq, cCM])
  obtain ⟨s, e1, e2, e3⟩ := cutOK_emb cut_s h4
  obtain ⟨t, f1, f2, f3⟩ := cutOK_emb cut_d h4
  have gm := (h4.blk _ _ at_v_is).1
  have hlt := h4.lt 12680 (by show 12680 < cCN; unfold cCN; omega)
  have hnew : nx ≤ newρ ρ cCM nx 12680 := by
    unfold newρ cCM
    rw [if_neg (by omega)]
    omega
  have q1 : renL ρ cCA = [.slice (some ⟨p, 0, none⟩) 1 1] := by simp [cCA, renL, ren, renP, r0]
  rw [q1] at h1
  generalize newρ ρ cCM nx = τ at *
  have f4 : τ 5 = τ (t 0) := by
    simp only [renL, ren, Option.map_some, List.cons.injEq, Value.map.injEq, Option.some.injEq, and_true] at f2
    exact f2
  refine ⟨_, _, _, h1, renL τ cCS, τ 12680, τ 5, ?_, ⟨_, ⟨e1, fun _ _ h => h⟩, e2, rfl⟩, ⟨_, ⟨f1, fun _ _ h => h⟩, f4⟩, hnew, hlt, ⟨_, _, gm, rfl, fun j e v hj hv => ?_⟩, ⟨h2, h3⟩⟩
  · rw [cCV_is]
    simp only [ren, renA, renL, renL_append, renP, Option.map_some]
    rfl
  · have hj0 : j = 0 := by
      have := (List.getElem?_eq_some_iff.1 hv).1
      simpa using this
    subst hj0
    simp at hj hv
    subst hv
    rw [← hj]
    simp [renE, ren, renA, renL, kN, verV]
/-- The instance. -/
noncomputable def cl : Cl where
  StoreAt := StoreC
  DbAt := DbC
  store_ext := fun ⟨ρ, h, e, g⟩ hle hk => ⟨ρ, h.ext hle hk, e, g⟩
  db_ext := fun ⟨ρ, h, e⟩ hle hk => ⟨ρ, h.ext hle hk, e⟩
  store_av := fun ⟨ρ, h, e, g⟩ hk => ⟨ρ, h.av hk, e, g⟩
  store_bb := fun {Av bb i S H nx} ⟨ρ, h, e, g⟩ b hb => by
    subst g
    cases i with
    | zero => cases hb
    | succ k =>
      have h5 : 5 < nS (k + 1) := by show 5 < 139 + 2 * (k + 1); omega
      cases hb
      exact ⟨h.1.lt 5 h5, h.2 5 h5⟩
  db_av := fun ⟨ρ, h, e⟩ hk => ⟨ρ, h.av hk, e⟩
  store_len := fun {Av bb i S H nx} ⟨ρ, h, e, _⟩ => by
    subst e
    rw [renL_length, oneCells_ren]
    cases i <;> exact ⟨rfl, rfl⟩
  log := log_c
  apply := app_c
  rows := row_c
  create := create_c
end Go.Proofs.YtbmiedinclieaaaGreatDoor
