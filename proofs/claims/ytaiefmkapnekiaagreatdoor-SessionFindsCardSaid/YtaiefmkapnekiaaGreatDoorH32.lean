/-
  The oracles' contracts.
-/
import Derived.Test.YtaiefmkapnekiaaGreatDoorH19
import Derived.Test.YtaiefmkapnekiaaGreatDoorH31
import Derived.Test.YtaiefmkapnekiaaGreatDoorH21
import Derived.Test.YtaiefmkapnekiaaGreatDoorH22
import Derived.Test.YtaiefmkapnekiaaGreatDoorH23
import Derived.Shelf.Spec.SlicesGrow
set_option linter.all false
namespace Go.Clo
/-- A function of values alone that reads the listed package variables. -/
theorem cs_flatG {P : Program} {f : FuncId} {args : List Value} {v : Value} (hE : Enters P f) (ha : args.all flat1 = true) (hv : flat v = true) (h : ∀ w, GlW w → Calls P f args.toArray w fun e w' => e = .returned v ∧ RowKit.Below w.heap.size w w') (H : Heap) (nx : Nat) :
    CS P f args H nx v H nx := by
  refine ⟨hE, fun F args' w hr hl => ?_⟩
  have e := flatL_eq hl ha
  subst e
  refine (h w hr.gl.1).mono fun e w' ⟨he, hb⟩ => ⟨v, F, he, flat_refl F v hv, ⟨Nat.le_refl _, fun _ _ => rfl, hb.os, hb.tape, hb.output, hb.size, fun k hk _ => hb.block k hk, fun b hb => .inl hb, fun i _ h => h, fun i b hg _ => ⟨hr.low hg, hg⟩, ?_⟩⟩
  exact ⟨fun i b hi hg => let ⟨t, h1, h2⟩ := hr.blk i b hi hg; ⟨t, h1, h2.mono (fun _ _ h => h) (hb.block _ h2.lt)⟩, hr.inj, hr.fresh, hr.top, hr.gl.step (fun k hk _ => hb.block k hk) fun b hb => .inl hb⟩
end Go.Clo
namespace Go.Proofs.YtaiefmkapnekiaaGreatDoor
open Go.Clo
theorem tz_facts : ∀ x, x < 64 → 0 < x → x.testBit (tz x) = true ∧ tz x < 6 := by decide
-- strings.Clone
open Go.RowKit in
theorem clone_w (s : ByteArray) (w : World) (hs : s.size ≤ 1000) : Calls Tryz.prog 210 #[.string s] w fun e w' => e = .returned (.string s) ∧ Below w.heap.size w w' := by
  have hc := fun W => Any.stringslite_Clone Tryz.laysM316 s W (by omega)
  change ∀ W, Calls Tryz.prog 282 _ _ _ at hc
  clear hs
  go_enter Tryz.func210, Tryz.ntmps210
  go_wp2_with (go_at_call 282; refine (hc _).mono ?_; rintro e w' ⟨rfl, hb⟩)
  go_ret
  exact ⟨rfl, hb⟩
theorem enClone : Go.Clo.Enters Tryz.prog 210 := ⟨_, _, Tryz.func210, rfl, by kernel_rfl⟩
theorem cloneO_ok {args : List Value} {H : Heap} {nx : Nat} {v : Value} {H' : Heap} {nx' : Nat} (h : cloneO args H nx = some (v, H', nx')) : CS Tryz.prog 210 args H nx v H' nx' := by
  unfold cloneO at h
  split at h
  · rename_i s
    cases hb : Nat.ble s.size 1000 with
    | false => rw [hb] at h; cases h
    | true =>
      rw [hb] at h; cases h
      exact cs_flatG enClone rfl rfl (fun w _ => clone_w s w (Nat.le_of_ble_eq_true hb)) H nx
  · cases h
-- math/bits.TrailingZeros32
theorem tzi_facts : ∀ x, x < 64 → 0 < x → deB[tzi x]? = some (tz x) := by decide
theorem cell_of {w : World} {b i : Nat} {l : List Value} {e : TypeId} {m : Nat × Nat} {v : Value} (hc : w.heap[b]? = some (.cells ⟨l⟩ e m)) (hi : l[i]? = some v) : w.cell? ⟨b, i, none⟩ = some v := by simp [World.cell?, hc, hi]
theorem glw_tab {w : World} (h : GlW w) {i n : Nat} (hi : deB[i]? = some n) : w.cell? ⟨1, i, none⟩ = some (.int .u8 (n : Int)) := by
  obtain ⟨_, e, m, hc⟩ := h _ (List.mem_cons_of_mem _ (List.mem_singleton.2 rfl))
  exact cell_of hc (by rw [List.getElem?_map, hi]; rfl)
theorem glw_crc {w : World} (h : GlW w) {i : Nat} (hi : i < 16) : w.cell? ⟨0, i, none⟩ = some (.int .u32 (ctab.getD i 0 : Nat)) := by
  obtain ⟨_, e, m, hc⟩ := h _ (List.mem_cons_self ..)
  have h1 : i < ctab.length := hi
  refine cell_of hc ?_
  rw [List.getElem?_map, List.getElem?_eq_getElem h1, List.getD, List.getElem?_eq_getElem h1]
  rfl
theorem enTz : Go.Clo.Enters Tryz.prog 336 := ⟨_, _, Tryz.func336, rfl, by kernel_rfl⟩
theorem tz_w {x : Nat} (h0 : 0 < x) (h64 : x < 64) (w : World) (hg : GlW w) : Calls Tryz.prog 336 #[.int .u32 (x : Int)] w fun e w' => e = .returned (.int .i64 (tz x : Int)) ∧ w' = w :=
  callsIn_wide.1 (tz_in h0 h64 _ 0 trivial rfl w (tz x) (glw_tab hg (tzi_facts x h64 h0)) (by have := (tz_facts x h64 h0).2; omega))
theorem tzO_ok {args : List Value} {H : Heap} {nx : Nat} {v : Value} {H' : Heap} {nx' : Nat} (h : tzO args H nx = some (v, H', nx')) : CS Tryz.prog 336 args H nx v H' nx' := by
  unfold tzO at h
  split at h
  · rename_i x
    cases hb : (Nat.blt 0 x && Nat.blt x 64) with
    | false => rw [hb] at h; cases h
    | true =>
      rw [hb] at h
      simp only [cond_true] at h
      rw [forceN_eq] at h; cases h
      simp only [Bool.and_eq_true, Nat.blt_eq] at hb
      exact cs_flatG enTz rfl rfl (fun w hg => (tz_w hb.1 hb.2 w hg).mono fun e w' ⟨h1, h2⟩ => ⟨h1, h2 ▸ below_self⟩) H nx
  · cases h
-- strings.Compare
theorem enCompare : Go.Clo.Enters Tryz.prog 443 := ⟨_, _, Tryz.func443, rfl, by kernel_rfl⟩
theorem compareO_ok {args : List Value} {H : Heap} {nx : Nat} {v : Value} {H' : Heap} {nx' : Nat} (h : compareO args H nx = some (v, H', nx')) : CS Tryz.prog 443 args H nx v H' nx' := by
  unfold compareO at h
  split at h
  · rename_i a b
    rw [forceI_eq] at h; cases h
    exact cs_flatG enCompare rfl rfl (fun w _ => Calls.mono (show Calls Tryz.prog 443 #[.string a, .string b] w _ from Any.strings_Compare Tryz.lays106 a b w) fun e w' ⟨h1, h2⟩ => ⟨h1, h2 ▸ below_self⟩) H nx
  · cases h
-- maps.Clone
theorem mcloneG {f : FuncId} (hE : Go.Clo.Enters Tryz.prog f) (h1 : ∀ (b : Nat) (es : Array MapEntry) (c : Nat) (w : World), w.heap[b]? = some (.map es c) → Calls Tryz.prog f #[.map (some b)] w fun e w' => e = .returned (.map (some w.heap.size)) ∧ w' = w.alloc (.map es c))
    (h2 : ∀ w : World, Calls Tryz.prog f #[.map none] w fun e w' => e = .returned (.map none) ∧ w' = w) {args : List Value} {H : Heap} {nx : Nat} {v : Value} {H' : Heap} {nx' : Nat} (h : mcloneO args H nx = some (v, H', nx')) : CS Tryz.prog f args H nx v H' nx' := by
  unfold mcloneO at h
  split at h
  · cases h
    exact cs_flatG hE rfl rfl (fun w _ => (h2 w).mono fun e w' ⟨h1, h2⟩ => ⟨h1, h2 ▸ below_self⟩) H nx
  · rename_i r
    rw [getB_eq] at h
    cases hg : getH H r with
    | none => rw [hg] at h; cases h
    | some blk =>
      rw [hg] at h
      dsimp only [Option.elim_some] at h
      split at h
      · rename_i es k
        rw [hsK_eq, forceN_eq] at h; cases h
        refine ⟨hE, fun F args' w hr hv => ?_⟩
        cases hv with
        | cons hv hv2 =>
        cases hv2
        cases hv with
        | @map _ t hF =>
        obtain ⟨hb0, es', c', hw, hcl, hel, hst⟩ := hr.hb.get hF hg
        refine (h1 t.blk es' c' w hw).mono fun e w' ⟨he, hw'⟩ => ?_
        subst hw'
        have hfresh : F nx = none := hr.fresh nx (Nat.le_refl _)
        refine ⟨_, upd F nx ⟨w.heap.size, 0, 0, 0, 0⟩, he, VR.map (upd_same F nx ⟨w.heap.size, 0, 0, 0, 0⟩), Stp.name hr rfl rfl rfl rfl (by simp) (fun k hk => alloc_get w _ k hk) ⟨rfl, es', c', alloc_top w _, hcl, hel.mono (upd_le hfresh _), hst⟩ (Nat.le_refl _)⟩
      · cases h
  · cases h
-- slices.Grow
theorem zero_list (z : Value) (n : Nat) : (Builtin.zeroCells #[z] n).toList = List.replicate n z := by
  apply List.ext_getElem
  · simp [Builtin.zeroCells]
  · intro i h1 h2
    simp [Builtin.zeroCells, Nat.mod_one]
open Go.RowKit Go.Shelf in
theorem growW {ρ : Ren} (L : Go.Proofs.Lays8.n4 Tryz.prog ρ) {z : Value} {by8 : Nat} (hi9 : (Tryz.prog.info? (ρ.t 25)).map (fun i => (i.zero, i.size, i.bytes)) = some (some z, 1, by8)) (hz : z.cells = #[z]) (h8 : by8 ≤ 1000) (n : Nat) (h0 : 0 < n) (hn : n ≤ 100000) (w : World) :
    Calls Tryz.prog (ρ.f 4) #[.slice none 0 0, .int .i64 (n : Int)] w fun e w' => ∃ (G : Nat) (cur : Array Value), e = .returned (.slice (some ⟨w.heap.size, 0, none⟩) 0 G) ∧ (n ≤ G ∧ G ≤ 9223372036854775807) ∧ Below w.heap.size w w' ∧
    w'.heap[w.heap.size]? = some (.cells cur (ρ.t 25) (0, 0)) ∧ cur.size = G ∧ cur.toList.take n = List.replicate n z := by
  obtain ⟨i0, hi, hz0, hz1, hz2⟩ := info_parts hi9
  have hc := Any8.slices_Grow_grow L i0 z hi hz0 (by omega) none 0 0 n [] w (Nat.le_refl _) (by omega) (by rw [hz2]; exact Nat.le_trans (Nat.mul_le_mul (show 0 + n ≤ 100000 by omega) h8) (by omega)) (by omega) (by simp) (fun _ => rfl) (fun a h => by cases h)
  refine Calls.mono hc ?_
  rintro e w' ⟨rfl, rfl⟩
  have hG := grownCap_ge w (0 + n) 0 (ρ.t 25)
  refine ⟨_, (#[] ++ Builtin.zeroCells z.cells (0 + n - 0) ++ Builtin.zeroCells z.cells (grownCap w (0 + n) 0 (ρ.t 25) - (0 + n))), rfl, ⟨by omega, by have := grownCap_le_maxLen w (0 + n) 0 (ρ.t 25) (by unfold maxLen; omega); unfold maxLen at this; omega⟩, ((RowKit.Below.refl _ w).drew).alloc (Nat.le_refl _) _, ?_, ?_, ?_⟩
  · show (w.heap.push _)[w.heap.size]? = _
    rw [Array.getElem?_push_size]
  · rw [hz]
    have hz : ∀ m, (Builtin.zeroCells #[z] m).size = m := fun m => by
      have := congrArg List.length (zero_list z m)
      rw [Array.length_toList, List.length_replicate] at this
      exact this
    rw [Array.size_append, Array.size_append, hz, hz]
    simp only [Array.size_empty]
    omega
  · simp only [Array.toList_append, List.nil_append]
    rw [hz, zero_list, zero_list]
    simp
theorem repl_flat (z : Value) (hz : flat1 z = true) (n : Nat) : (List.replicate n z).all flat1 = true := by
  rw [List.all_eq_true]
  intro v hv
  rw [List.eq_of_mem_replicate hv]; exact hz
theorem growG {ρ : Go.Shelf.Ren} (L : Go.Proofs.Lays8.n4 Tryz.prog ρ) {z : Value} {by8 : Nat} (hi9 : (Tryz.prog.info? (ρ.t 25)).map (fun i => (i.zero, i.size, i.bytes)) = some (some z, 1, by8)) (hz : z.cells = #[z]) (hzf : flat1 z = true) (h8 : by8 ≤ 1000) (hE : Go.Clo.Enters Tryz.prog (ρ.f 4))
    {args : List Value} {H : Heap} {nx : Nat} {v : Value} {H' : Heap} {nx' : Nat} (h : growO z args H nx = some (v, H', nx')) : CS Tryz.prog (ρ.f 4) args H nx v H' nx' := by
  unfold growO at h
  split at h
  · rename_i n
    cases hb : Nat.beq n 0 with
    | true =>
      rw [hb] at h; cases h
      have := Nat.eq_of_beq_eq_true hb
      subst this
      exact cs_flatG hE rfl rfl (fun w _ => Calls.mono (Any8.slices_Grow_room L none 0 0 0 w (Nat.le_refl _) (by omega) (by omega) (Nat.le_refl _)) fun e w' ⟨h1, h2⟩ => ⟨h1, h2 ▸ below_self⟩) H nx
    | false =>
      rw [hb] at h
      simp only [cond_false] at h
      cases hn : Nat.ble n 100000 with
      | false => rw [hn] at h; cases h
      | true =>
        rw [hn] at h
        simp only [cond_true] at h
        rw [Go.Clo.spine_eq, hsK_eq, forceN_eq] at h; cases h
        have h0 : 0 < n := by
          rcases Nat.eq_zero_or_pos n with e | e
          · subst e; cases hb
          · exact e
        refine ⟨hE, fun F args' w hh hl => ?_⟩
        have e := flatL_eq hl rfl
        subst e
        refine Calls.mono (growW L hi9 hz h8 n h0 (Nat.le_of_ble_eq_true hn) w) ?_
        rintro e w' ⟨G, cur, he, hG, hb, hc, hsz, htk⟩
        have hl : (List.replicate n z).length = n := List.length_replicate
        refine ⟨_, upd F nx ⟨w.heap.size, 0, n, 1, G⟩, he, ?_, Stp.name hh rfl hb.os hb.tape hb.output hb.size (fun k hk => hb.block k hk) ?_ (Nat.le_refl _)⟩
        · have := VR.slice (F := upd F nx ⟨w.heap.size, 0, n, 1, G⟩) (b := nx) (o := 0) (n := 0) (c := n) (c' := G) (t := ⟨w.heap.size, 0, n, 1, G⟩) (upd_same _ _ _) (.inr ⟨Nat.one_pos, hG.1, by simp, by simp, hG.2⟩)
          exact this
        · refine ⟨cur, _, _, hc, ⟨hsz, TyOK.low _ (by omega), FzOK.none _⟩, ?_, rfl, by rw [hl]; simpa using hG.1, ?_⟩
          · exact hl.symm
          · simp only [List.drop_zero]
            rw [hl, htk]
            exact flatL_refl _ _ (repl_flat z hzf n)
  · cases h
end Go.Proofs.YtaiefmkapnekiaaGreatDoor
