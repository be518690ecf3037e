/-
  All oracles keep their contracts.
-/
import Derived.Test.YtaiefmkapnekiaaGreatDoorH32
set_option linter.all false
namespace Go.Proofs.YtaiefmkapnekiaaGreatDoor
open Go.Clo Go.Shelf

-- maps.Keys
theorem keysO_ok {f g T : Nat} (hE : Go.Clo.Enters Tryz.prog f) (hc : ∀ mb W, Calls Tryz.prog f #[.map mb] W fun e w' => e = .returned (.func (.func g) #[] #[.pointer (some ⟨W.heap.size, 0, none⟩)]) ∧ w' = W.alloc (.cells #[.map mb] T))
    {args : List Value} {H : Heap} {nx : Nat} {v : Value} {H' : Heap} {nx' : Nat} (h : keysO g T args H nx = some (v, H', nx')) : CS Tryz.prog f args H nx v H' nx' := by
  unfold keysO at h
  split at h
  · rw [hsK_eq, forceN_eq] at h; cases h
    exact keys_cs hE hc _ H nx
  · cases h
-- slices.Sorted
theorem boxK_inv {H : Heap} {p : Nat} {k : Option Nat → Option (Value × Heap × Nat)} {r : Value × Heap × Nat} (h : boxK H p k = some r) : ∃ m sl, getH H p = some (.cells [.map m] sl) ∧ 1000 ≤ sl ∧ sl % 1000 = 0 ∧ k m = some r := by
  unfold boxK at h
  rw [getB_eq] at h
  cases hg : getH H p with
  | none => rw [hg] at h; cases h
  | some blk =>
    rw [hg] at h
    dsimp only [Option.elim_some] at h
    split at h
    · rename_i m sl
      cases hb : (Nat.ble 1000 sl && Nat.beq (sl % 1000) 0) with
      | false => rw [hb] at h; cases h
      | true =>
        rw [hb] at h
        simp only [cond_true] at h
        rw [Bool.and_eq_true] at hb
        exact ⟨m, sl, rfl, Nat.le_of_ble_eq_true hb.1, Nat.eq_of_beq_eq_true hb.2, h⟩
    · cases h
theorem sortedIO_ok {args : List Value} {H : Heap} {nx : Nat} {v : Value} {H' : Heap} {nx' : Nat} (h : sortedIO gI args H nx = some (v, H', nx')) : CS Tryz.prog 38 args H nx v H' nx' := by
  unfold sortedIO at h
  split at h
  · rename_i g p
    cases hb : gI g with
    | false => rw [hb] at h; cases h
    | true =>
      rw [hb] at h
      simp only [cond_true] at h
      have main : ∀ {ρ : Go.Shelf.Ren} (L : Go.Proofs.SlLaysZI.n10 Tryz.prog ρ) (h26 : ρ.t 26 = 3) (eg : ∀ args w, (callFunc (ρ.f 10) args).run Tryz.prog w = .ok (.enter (ρ.f 10) args) w), ρ.f 10 = g →
          CS Tryz.prog 38 [.func (.func g) ⟨[]⟩ ⟨[.pointer (some ⟨p, 0, none⟩)]⟩] H nx v H' nx' := by
        intro ρ L h26 eg e
        subst e
        obtain ⟨m, sl, hp, h1, h2, h⟩ := boxK_inv h
        split at h
        · cases h
          exact sortedI_nil_cs L eg hp h1 h2
        · rename_i r
          rw [getB_eq] at h
          cases hg : getH H r with
          | none => rw [hg] at h; cases h
          | some blk =>
            rw [hg] at h
            dsimp only [Option.elim_some] at h
            split at h
            · rename_i es c
              split at h
              · rename_i zs hz
                cases hl : Nat.ble zs.length 1000 with
                | false => rw [hl] at h; cases h
                | true =>
                  rw [hl] at h
                  simp only [cond_true] at h
                  rw [newQ_eq] at h; cases h
                  exact sortedI_cs L h26 eg hp h1 h2 hg hz (Nat.le_of_ble_eq_true hl)
              · cases h
            · cases h
      unfold gI at hb
      simp only [Bool.or_eq_true] at hb
      rcases hb with hb | hb | hb
      · exact main (ρ := Tryz.keys40_ren) { Tryz.keys40 with } rfl (enters_of Tryz.func88 (by kernel_rfl) rfl) (Nat.eq_of_beq_eq_true hb).symm
      · exact main (ρ := Tryz.keys73_ren) { Tryz.keys73 with } rfl (enters_of Tryz.func61 (by kernel_rfl) rfl) (Nat.eq_of_beq_eq_true hb).symm
      · exact main (ρ := Tryz.keys108_ren) { Tryz.keys108 with } rfl (enters_of Tryz.func183 (by kernel_rfl) rfl) (Nat.eq_of_beq_eq_true hb).symm
  · cases h
theorem sortedSO_ok {args : List Value} {H : Heap} {nx : Nat} {v : Value} {H' : Heap} {nx' : Nat} (h : sortedSO gS args H nx = some (v, H', nx')) : CS Tryz.prog 172 args H nx v H' nx' := by
  unfold sortedSO at h
  split at h
  · rename_i g p
    cases hb : gS g with
    | false => rw [hb] at h; cases h
    | true =>
      rw [hb] at h
      simp only [cond_true] at h
      have e : Tryz.keys158_ren.f 10 = g := (Nat.eq_of_beq_eq_true hb).symm
      obtain ⟨m, sl, hp, h1, h2, h⟩ := boxK_inv h
      split at h
      · cases h
      · rename_i r
        rw [getB_eq] at h
        cases hg : getH H r with
        | none => rw [hg] at h; cases h
        | some blk =>
          rw [hg] at h
          dsimp only [Option.elim_some] at h
          split at h
          · rename_i es c
            split at h
            · rename_i zs hz
              cases hl : Nat.ble zs.length 1000 with
              | false => rw [hl] at h; cases h
              | true =>
                rw [hl] at h
                simp only [cond_true] at h
                rw [newQ_eq] at h; cases h
                rw [← e]
                exact sortedS_cs (ρ := Tryz.keys158_ren) { Tryz.keys158 with } rfl (enters_of Tryz.func242 (by kernel_rfl) rfl) hp h1 h2 hg hz (Nat.le_of_ble_eq_true hl)
            · cases h
          · cases h
  · cases h
-- checksum.Update
theorem enUpdate : Go.Clo.Enters Tryz.prog 301 := ⟨_, _, Tryz.func301, rfl, by kernel_rfl⟩
theorem nthK_ctab (i : Nat) : ct i = ⟨ctab.getD i 0⟩ := by
  unfold ct
  rw [nthK_eq]
  cases h : ctab[i]? with
  | none => simp [List.getD, h]
  | some n => simp [List.getD, h]
theorem nib_is (r : Nat) (k : Nat → Nat) : nib r k = k (nibN r) := by
  unfold nib nibN
  rw [nthK_ctab, fN_eq]
theorem crcL_cons (v : Value) (l : List Value) (r : Nat) : crcL (v :: l) r = crcL l (nibN (nibN (r ^^^ natV v))) := by
  show fN (Nat.xor r (natV v)) (fun r => nib r fun r => nib r (crcL l)) = _
  rw [fN_eq, nib_is, nib_is]
  rfl
theorem crcL_eq : ∀ (l : List Value) (r : Nat), crcL l r = crcN (l.map natV) r
  | [], r => rfl
  | v :: l, r => by
    rw [crcL_cons, crcL_eq l]
    rfl
theorem byteV_is {v : Value} (h : byteV v = true) : v = .int .u8 (natV v : Nat) ∧ natV v < 256 := by
  unfold byteV at h
  split at h
  · exact ⟨rfl, by rw [Nat.blt_eq] at h; exact h⟩
  · cases h
theorem updateO_ok {args : List Value} {H : Heap} {nx : Nat} {v : Value} {H' : Heap} {nx' : Nat} (h : updateO args H nx = some (v, H', nx')) : CS Tryz.prog 301 args H nx v H' nx' := by
  unfold updateO at h
  split at h
  · rename_i s b
    cases hs : Nat.blt s 4294967296 with
    | false => rw [hs] at h; cases h
    | true =>
    rw [hs] at h
    simp only [cond_true] at h
    have hs : s < 4294967296 := by simpa using hs
    split at h
    · rename_i a n cap
      obtain ⟨l, h, hw⟩ := rowK_world (cap := cap) h
      cases hb : (l.all byteV && Nat.ble l.length 1000000) with
      | false => rw [hb] at h; cases h
      | true =>
        rw [hb] at h
        simp only [cond_true] at h
        rw [fN_eq] at h; cases h
        rw [Bool.and_eq_true, List.all_eq_true] at hb
        have hfl : l.all flat1 = true := by
          rw [List.all_eq_true]
          intro x hx
          rw [(byteV_is (hb.1 x hx)).1]; rfl
        refine ⟨enUpdate, fun F args' w hr hv => ?_⟩
        cases hv with
        | cons hv hv2 =>
        cases hv
        cases hv2 with
        | cons hv2 hv3 =>
        cases hv3
        have hrow := hw hr hv2 hfl
        cases hrow with
        | nil h0 => cases hv2
        | @row b o c hc =>
          have := update_w s b o l.length c (l.map natV) w hs (by simp) (Nat.le_of_ble_eq_true hb.2) (fun j => by
            rcases Nat.lt_or_ge j l.length with hj | hj
            · simp only [List.getD, List.getElem?_map, List.getElem?_eq_getElem hj, Option.map_some, Option.getD_some]
              exact (byteV_is (hb.1 _ (List.getElem_mem hj))).2
            · simp [List.getD, List.getElem?_eq_none hj]) (fun j hj => by
            rw [hc j _ (List.getElem?_eq_getElem hj)]
            simp only [List.getD, List.getElem?_map, List.getElem?_eq_getElem hj, Option.map_some, Option.getD_some]
            rw [← (byteV_is (hb.1 _ (List.getElem_mem hj))).1]) (fun i hi => glw_crc hr.gl.1 hi)
          refine this.mono fun e w' ⟨he, hw'⟩ => ?_
          subst hw'
          refine ⟨_, F, he, ?_, stp_below hr below_self⟩
          rw [crcL_eq]
          exact .int _ _
    · cases h
  · cases h
theorem dok_is : DfrOK Tryz.prog dok := dok_ok
theorem orc0_ok : OrcOK Tryz.prog orc0 := by
  intro f o h args H nx v H' nx' ho
  unfold orc0 at h
  have beq : ∀ {n : Nat}, Nat.beq f n = true → f = n := fun h => Nat.eq_of_beq_eq_true h
  cases h1 : Nat.beq f 301 with
  | true => rw [h1] at h; cases h; rw [beq h1]; exact updateO_ok ho
  | false =>
  rw [h1] at h; simp only [cond_false] at h
  cases h1 : Nat.beq f 210 with
  | true => rw [h1] at h; cases h; rw [beq h1]; exact cloneO_ok ho
  | false =>
  rw [h1] at h; simp only [cond_false] at h
  cases h1 : Nat.beq f 172 with
  | true => rw [h1] at h; cases h; rw [beq h1]; exact sortedSO_ok ho
  | false =>
  rw [h1] at h; simp only [cond_false] at h
  cases h1 : Nat.beq f 38 with
  | true => rw [h1] at h; cases h; rw [beq h1]; exact sortedIO_ok ho
  | false =>
  rw [h1] at h; simp only [cond_false] at h
  cases h1 : Nat.beq f 173 with
  | true =>
    rw [h1] at h; cases h; rw [beq h1]
    exact keysO_ok ⟨_, _, Tryz.func173, rfl, by kernel_rfl⟩ (fun mb W => callsIn_wide.1 (Go.Proofs.AnyZ.keys_in Tryz.keys158 Fence.wide 5 trivial rfl mb W)) ho
  | false =>
  rw [h1] at h; simp only [cond_false] at h
  cases h1 : Nat.beq f 56 with
  | true =>
    rw [h1] at h; cases h; rw [beq h1]
    exact keysO_ok ⟨_, _, Tryz.func56, rfl, by kernel_rfl⟩ (fun mb W => callsIn_wide.1 (Go.Proofs.AnyZI.keys_in Tryz.keys40 Fence.wide 5 trivial rfl mb W)) ho
  | false =>
  rw [h1] at h; simp only [cond_false] at h
  cases h1 : Nat.beq f 39 with
  | true =>
    rw [h1] at h; cases h; rw [beq h1]
    exact keysO_ok ⟨_, _, Tryz.func39, rfl, by kernel_rfl⟩ (fun mb W => callsIn_wide.1 (Go.Proofs.AnyZI.keys_in Tryz.keys73 Fence.wide 5 trivial rfl mb W)) ho
  | false =>
  rw [h1] at h; simp only [cond_false] at h
  cases h1 : Nat.beq f 118 with
  | true =>
    rw [h1] at h; cases h; rw [beq h1]
    exact keysO_ok ⟨_, _, Tryz.func118, rfl, by kernel_rfl⟩ (fun mb W => callsIn_wide.1 (Go.Proofs.AnyZI.keys_in Tryz.keys108 Fence.wide 5 trivial rfl mb W)) ho
  | false =>
  rw [h1] at h; simp only [cond_false] at h
  cases h1 : (Nat.beq f 37 || (Nat.beq f 119 || Nat.beq f 176)) with
  | true =>
    rw [h1] at h; cases h
    simp only [Bool.or_eq_true] at h1
    rcases h1 with h1 | h1 | h1
    · rw [beq h1]
      exact mcloneG ⟨_, _, Tryz.func37, rfl, by kernel_rfl⟩ (fun b es c w hb => Go.Proofs.AnyW.maps_Clone Tryz.mclone29 b es c w hb) (fun w => Go.Proofs.AnyW.maps_Clone_nil Tryz.mclone29 w) ho
    · rw [beq h1]
      exact mcloneG ⟨_, _, Tryz.func119, rfl, by kernel_rfl⟩ (fun b es c w hb => Go.Proofs.AnyW.maps_Clone Tryz.mclone79 b es c w hb) (fun w => Go.Proofs.AnyW.maps_Clone_nil Tryz.mclone79 w) ho
    · rw [beq h1]
      exact mcloneG ⟨_, _, Tryz.func176, rfl, by kernel_rfl⟩ (fun b es c w hb => Go.Proofs.AnyW.maps_Clone Tryz.mclone161 b es c w hb) (fun w => Go.Proofs.AnyW.maps_Clone_nil Tryz.mclone161 w) ho
  | false =>
  rw [h1] at h; simp only [cond_false] at h
  cases h1 : Nat.beq f 394 with
  | true => rw [h1] at h; cases h; rw [beq h1]; exact growG Tryz.grow393 (by8 := 16) (by kernel_rfl) rfl rfl (by omega) ⟨_, _, Tryz.func394, rfl, by kernel_rfl⟩ ho
  | false =>
  rw [h1] at h; simp only [cond_false] at h
  cases h1 : Nat.beq f 391 with
  | true => rw [h1] at h; cases h; rw [beq h1]; exact growG Tryz.grow390 (by8 := 24) (by kernel_rfl) rfl rfl (by omega) ⟨_, _, Tryz.func391, rfl, by kernel_rfl⟩ ho
  | false =>
  rw [h1] at h; simp only [cond_false] at h
  cases h1 : Nat.beq f 336 with
  | true => rw [h1] at h; cases h; rw [beq h1]; exact tzO_ok ho
  | false =>
  rw [h1] at h; simp only [cond_false] at h
  cases h1 : Nat.beq f 443 with
  | true => rw [h1] at h; cases h; rw [beq h1]; exact compareO_ok ho
  | false =>
  rw [h1] at h; simp only [cond_false] at h
  cases h1 : Nat.beq f 306 with
  | true => rw [h1] at h; cases h; rw [beq h1]; exact bcompareO_ok ho
  | false => rw [h1] at h; cases h
end Go.Proofs.YtaiefmkapnekiaaGreatDoor
