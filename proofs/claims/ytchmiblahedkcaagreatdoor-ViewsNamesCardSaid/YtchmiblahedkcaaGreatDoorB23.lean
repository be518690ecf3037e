/-
  The other oracles: strings.Clone, strings.Compare, slices.Grow at nil, math/bits.TrailingZeros32, maps.Clone; all of them together.
-/
import Derived.Test.YtchmiblahedkcaaGreatDoorB17
import Derived.Test.YtchmiblahedkcaaGreatDoorB21
import Derived.Test.YtchmiblahedkcaaGreatDoorB22
import Derived.Shelf.Spec.SlicesGrow
set_option linter.all false
namespace Go.Clo
/-- A function of values alone that reads the listed package variables. -/
theorem cs_flatG {P : Program} {f : FuncId} {args : List Value} {v : Value} (hE : Enters P f) (ha : args.all flat1 = true) (hv : flat v = true) (h : ∀ w, GlW w → Calls P f args.toArray w fun e w' => e = .returned v ∧ RowKit.Below w.heap.size w w') (H : Heap) (nx : Nat) :
    CS P f args H nx v H nx := by
  refine ⟨hE, fun F args' w hr hl => ?_⟩
  have e := flatL_eq hl ha
  subst e
  refine (h w hr.gl.1).mono fun e w' ⟨he, hb⟩ => ⟨v, F, he, flat_refl F v hv, ⟨Nat.le_refl _, fun _ _ => rfl, hb.os, hb.tape, hb.output, hb.size, fun k hk _ => hb.block k hk, fun b hb => .inl hb, fun i _ h => h, fun i b hg _ => ⟨hr.low hg, hg⟩, ?_⟩⟩
  exact ⟨fun i b hi hg => let ⟨t, h1, h2⟩ := hr.blk i b hi hg; ⟨t, h1, h2.mono (fun _ _ h => h) (hb.block _ h2.lt)⟩, hr.inj, hr.fresh, hr.top, hr.gl.step (fun k hk _ => hb.block k hk) fun b hb => .inl hb⟩
theorem tz_facts : ∀ x, x < 64 → 0 < x → x.testBit (tz x) = true ∧ tz x < 6 := by decide
end Go.Clo
namespace Go.Proofs.YtchmiblahedkcaaGreatDoor
open Go.Clo
-- strings.Clone
open Go.RowKit in
theorem clone_w (s : ByteArray) (w : World) (hs : s.size ≤ 1000) : Calls Tryz.prog 94 #[.string s] w fun e w' => e = .returned (.string s) ∧ Below w.heap.size w w' := by
  have hc := fun W => Any.stringslite_Clone Tryz.laysM316 s W (by omega)
  change ∀ W, Calls Tryz.prog 152 _ _ _ at hc
  clear hs
  go_enter Tryz.func94, Tryz.ntmps94
  go_wp2_with (go_at_call 152; refine (hc _).mono ?_; rintro e w' ⟨rfl, hb⟩)
  go_ret
  exact ⟨rfl, hb⟩
theorem enters94 : Go.Clo.Enters Tryz.prog 94 := ⟨_, _, Tryz.func94, rfl, by kernel_rfl⟩
-- math/bits.TrailingZeros32
theorem tzi_facts : ∀ x, x < 64 → 0 < x → deB[tzi x]? = some (tz x) := by decide
theorem glw_tab {w : World} (h : GlW w) {i n : Nat} (hi : deB[i]? = some n) : w.cell? ⟨0, i, none⟩ = some (.int .u8 (n : Int)) := by
  obtain ⟨_, e, m, hc⟩ := h _ (List.mem_singleton.2 rfl)
  simp [World.cell?, hc, hi]
theorem enters203 : Go.Clo.Enters Tryz.prog 203 := ⟨_, _, Tryz.func203, rfl, by kernel_rfl⟩
theorem tz_w {x : Nat} (h0 : 0 < x) (h64 : x < 64) (w : World) (hg : GlW w) : Calls Tryz.prog 203 #[.int .u32 (x : Int)] w fun e w' => e = .returned (.int .i64 (tz x : Int)) ∧ w' = w :=
  callsIn_wide.1 (tz_in h0 h64 _ 0 trivial rfl w (tz x) (glw_tab hg (tzi_facts x h64 h0)) (by have := (tz_facts x h64 h0).2; omega))
-- strings.Compare
theorem enters185 : Go.Clo.Enters Tryz.prog 185 := ⟨_, _, Tryz.func185, rfl, by kernel_rfl⟩
theorem compare_w (a b : ByteArray) (w : World) : Calls Tryz.prog 185 #[.string a, .string b] w fun e w' => e = .returned (.int .i64 (Lib.compareBytes a.data.toList b.data.toList)) ∧ w' = w := Any.strings_Compare Tryz.lays106 a b w
-- maps.Clone
theorem enters59 : Go.Clo.Enters Tryz.prog 59 := ⟨_, _, Tryz.func59, rfl, by kernel_rfl⟩
theorem mclone_w (b : Nat) (es : Array MapEntry) (c : Nat) (w : World) (hb : w.heap[b]? = some (.map es c)) : Calls Tryz.prog 59 #[.map (some b)] w fun e w' => e = .returned (.map (some w.heap.size)) ∧ w' = w.alloc (.map es c) := AnyW.maps_Clone Tryz.mclone59 b es c w hb
theorem mclone_nil (w : World) : Calls Tryz.prog 59 #[.map none] w fun e w' => e = .returned (.map none) ∧ w' = w := AnyW.maps_Clone_nil Tryz.mclone59 w
-- slices.Grow
theorem info9 : (Tryz.prog.info? 9).map (fun i => (i.zero, i.size, i.bytes)) = some (some (.string ⟨#[]⟩), 1, 16) := by kernel_rfl
theorem enters253 : Go.Clo.Enters Tryz.prog 253 := ⟨_, _, Tryz.func253, rfl, by kernel_rfl⟩
def nul : ByteArray := ⟨#[]⟩
theorem zero_list (n : Nat) : (Builtin.zeroCells #[Value.string ⟨#[]⟩] n).toList = strs (List.replicate n nul) := by
  apply List.ext_getElem
  · simp [Builtin.zeroCells, strs]
  · intro i h1 h2
    simp [Builtin.zeroCells, strs, nul, Nat.mod_one]
open Go.RowKit Go.Shelf in
theorem growW (n : Nat) (h0 : 0 < n) (hn : n ≤ 100000) (w : World) : Calls Tryz.prog 253 #[.slice none 0 0, .int .i64 (n : Int)] w fun e w' => ∃ (G : Nat) (cur : Array Value), e = .returned (.slice (some ⟨w.heap.size, 0, none⟩) 0 G) ∧ (n ≤ G ∧ G ≤ 9223372036854775807) ∧ Below w.heap.size w w' ∧
    w'.heap[w.heap.size]? = some (.cells cur 9 (0, 0)) ∧ cur.size = G ∧ cur.toList.take n = strs (List.replicate n nul) := by
  obtain ⟨i0, hi, hz0, hz1, hz2⟩ := info_parts info9
  have hc := Any8.slices_Grow_grow Tryz.grow253 i0 (.string ⟨#[]⟩) hi hz0 (by omega) none 0 0 n [] w (Nat.le_refl _) (by omega) (by rw [hz2]; omega) (by omega) (by simp) (fun _ => rfl) (fun a h => by cases h)
  refine Calls.mono hc ?_
  rintro e w' ⟨rfl, rfl⟩
  have hG := grownCap_ge w (0 + n) 0 (Tryz.grow253_ren.t 25)
  refine ⟨_, (#[] ++ Builtin.zeroCells (Value.string ⟨#[]⟩).cells (0 + n - 0) ++ Builtin.zeroCells (Value.string ⟨#[]⟩).cells (grownCap w (0 + n) 0 (Tryz.grow253_ren.t 25) - (0 + n))), rfl, ⟨by omega, by have := grownCap_le_maxLen w (0 + n) 0 (Tryz.grow253_ren.t 25) (by unfold maxLen; omega); unfold maxLen at this; omega⟩, ((RowKit.Below.refl _ w).drew).alloc (Nat.le_refl _) _, ?_, ?_, ?_⟩
  · show (w.heap.push _)[w.heap.size]? = _
    rw [Array.getElem?_push_size]; rfl
  · have hz : ∀ m, (Builtin.zeroCells (Value.string ⟨#[]⟩).cells m).size = m := fun m => by
      have := congrArg List.length (zero_list m)
      rw [Array.length_toList, strs_length, List.length_replicate] at this
      exact this
    rw [Array.size_append, Array.size_append, hz, hz]
    simp only [Array.size_empty]
    omega
  · simp only [Array.toList_append, List.nil_append]
    rw [show (Value.string ⟨#[]⟩).cells = #[Value.string ⟨#[]⟩] from rfl, zero_list, zero_list]
    simp [strs]

/-! The oracles. -/
abbrev O := List Value → Heap → Nat → Option (Value × Heap × Nat)
def cloneO : O := fun args H nx => match args with
  | [.string s] => cond (Nat.ble s.size 1000) (some (.string s, H, nx)) none
  | _ => none
def compareO : O := fun args H nx => match args with
  | [.string a, .string b] => forceI (Lib.compareBytes a.data.toList b.data.toList) fun n => some (.int .i64 n, H, nx)
  | _ => none
def tzO : O := fun args H nx => match args with
  | [.int .u32 (.ofNat x)] => cond (Nat.blt 0 x && Nat.blt x 64) (forceN (tz x) fun t => some (.int .i64 (.ofNat t), H, nx)) none
  | _ => none
noncomputable def growO : O := fun args H nx => match args with
  | [.slice none 0 0, .int .i64 (.ofNat n)] => cond (Nat.beq n 0) (some (.slice none 0 0, H, nx)) (cond (Nat.ble n 100000) (Go.Clo.spine (strs (List.replicate n nul)) fun l => hsK H nx (some (.cells l 1)) fun H => forceN (nx + 1) fun q => some (.slice (some ⟨nx, 0, none⟩) 0 n, H, q)) none)
  | _ => none
noncomputable def mcloneO : O := fun args H nx => match args with
  | [.map none] => some (.map none, H, nx)
  | [.map (some r)] => getB H r none fun b => match b with
    | .map es k => hsK H nx (some (.map es k)) fun H => forceN (nx + 1) fun q => some (.map (some nx), H, q)
    | _ => none
  | _ => none
noncomputable def newK (zs : List ByteArray) (H : Heap) (nx : Nat) : Option (Value × Heap × Nat) := match zs with
  | [] => some (.slice none 0 0, H, nx)
  | z :: l => Go.Clo.spine (strs (z :: l)) fun c => hsK H nx (some (.cells c 1)) fun H => forceN (l.length + 1) fun n => forceN (nx + 1) fun q => some (.slice (some ⟨nx, 0, none⟩) n n, H, q)
theorem newK_eq (zs : List ByteArray) (H : Heap) (nx : Nat) : newK zs H nx = some ((newS zs H nx).1, (newS zs H nx).2.1, (newS zs H nx).2.2) := by
  cases zs with
  | nil => rfl
  | cons z l => simp only [newK]; rw [Go.Clo.spine_eq, hsK_eq, forceN_eq, forceN_eq]; rfl
noncomputable def namesK (H : Heap) (nx r : Nat) : Option (Value × Heap × Nat) := getB H r none fun b => match b with
  | .map es _ => (match keysS es with
    | some zs => cond (Nat.ble zs.length 1000) (newK (sortB zs) H nx) none
    | none => none)
  | _ => none
noncomputable def namesO : O := fun args H nx => match args with
  | [.agg ⟨[_, .map none]⟩] => some (.slice none 0 0, H, nx)
  | [.agg ⟨[_, .map (some r)]⟩] => namesK H nx r
  | _ => none
noncomputable def dbNamesO : O := fun args H nx => match args with
  | [.agg ⟨[.map (some r)]⟩] => namesK H nx r
  | _ => none
noncomputable def orc : Orc := fun f =>
  cond (Nat.beq f 94) (some cloneO) (cond (Nat.beq f 46) (some dbNamesO) (cond (Nat.beq f 14) (some namesO) (cond (Nat.beq f 59) (some mcloneO)
  (cond (Nat.beq f 253) (some growO) (cond (Nat.beq f 203) (some tzO) (cond (Nat.beq f 185) (some compareO) none))))))

theorem cloneO_ok {args : List Value} {H : Heap} {nx : Nat} {v : Value} {H' : Heap} {nx' : Nat} (h : cloneO args H nx = some (v, H', nx')) : CS Tryz.prog 94 args H nx v H' nx' := by
  unfold cloneO at h
  split at h
  · rename_i s
    cases hb : Nat.ble s.size 1000 with
    | false => rw [hb] at h; cases h
    | true =>
      rw [hb] at h; cases h
      exact cs_flatG enters94 rfl rfl (fun w _ => clone_w s w (Nat.le_of_ble_eq_true hb)) H nx
  · cases h
theorem below_self {w : World} : RowKit.Below w.heap.size w w := RowKit.Below.refl _ w
theorem compareO_ok {args : List Value} {H : Heap} {nx : Nat} {v : Value} {H' : Heap} {nx' : Nat} (h : compareO args H nx = some (v, H', nx')) : CS Tryz.prog 185 args H nx v H' nx' := by
  unfold compareO at h
  split at h
  · rename_i a b
    rw [forceI_eq] at h; cases h
    exact cs_flatG enters185 rfl rfl (fun w _ => (compare_w a b w).mono fun e w' ⟨h1, h2⟩ => ⟨h1, h2 ▸ below_self⟩) H nx
  · cases h
theorem tzO_ok {args : List Value} {H : Heap} {nx : Nat} {v : Value} {H' : Heap} {nx' : Nat} (h : tzO args H nx = some (v, H', nx')) : CS Tryz.prog 203 args H nx v H' nx' := by
  unfold tzO at h
  split at h
  · rename_i x
    cases hb : (Nat.blt 0 x && Nat.blt x 64) with
    | false => rw [hb] at h; cases h
    | true =>
      rw [hb] at h
      simp only [cond_true] at h
      rw [forceN_eq] at h; cases h
      simp only [Bool.and_eq_true, Nat.blt_eq] at hb
      exact cs_flatG enters203 rfl rfl (fun w hg => (tz_w hb.1 hb.2 w hg).mono fun e w' ⟨h1, h2⟩ => ⟨h1, h2 ▸ below_self⟩) H nx
  · cases h
theorem growO_ok {args : List Value} {H : Heap} {nx : Nat} {v : Value} {H' : Heap} {nx' : Nat} (h : growO args H nx = some (v, H', nx')) : CS Tryz.prog 253 args H nx v H' nx' := by
  unfold growO at h
  split at h
  · rename_i n
    cases hb : Nat.beq n 0 with
    | true =>
      rw [hb] at h; cases h
      have := Nat.eq_of_beq_eq_true hb
      subst this
      exact cs_flatG enters253 rfl rfl (fun w _ => Calls.mono (Any8.slices_Grow_room Tryz.grow253 none 0 0 0 w (Nat.le_refl _) (by omega) (by omega) (Nat.le_refl _)) fun e w' ⟨h1, h2⟩ => ⟨h1, h2 ▸ below_self⟩) H nx
    | false =>
      rw [hb] at h
      simp only [cond_false] at h
      cases hn : Nat.ble n 100000 with
      | false => rw [hn] at h; cases h
      | true =>
        rw [hn] at h
        simp only [cond_true] at h
        rw [Go.Clo.spine_eq, hsK_eq, forceN_eq] at h; cases h
        have h0 : 0 < n := by
          rcases Nat.eq_zero_or_pos n with e | e
          · subst e; cases hb
          · exact e
        refine ⟨enters253, fun F args' w hh hl => ?_⟩
        have e := flatL_eq hl rfl
        subst e
        refine Calls.mono (growW n h0 (Nat.le_of_ble_eq_true hn) w) ?_
        rintro e w' ⟨G, cur, he, hG, hb, hc, hsz, htk⟩
        have hl : (strs (List.replicate n nul)).length = n := by rw [strs_length, List.length_replicate]
        refine ⟨_, upd F nx ⟨w.heap.size, 0, n, 1, G⟩, he, ?_, Stp.name hh rfl hb.os hb.tape hb.output hb.size (fun k hk => hb.block k hk) ?_ (Nat.le_refl _)⟩
        · have := VR.slice (F := upd F nx ⟨w.heap.size, 0, n, 1, G⟩) (b := nx) (o := 0) (n := 0) (c := n) (c' := G) (t := ⟨w.heap.size, 0, n, 1, G⟩) (upd_same _ _ _) (.inr ⟨Nat.one_pos, hG.1, by simp, by simp, hG.2⟩)
          exact this
        · refine ⟨cur, _, hc, ⟨hsz, TyOK.low _ (by omega)⟩, ?_, rfl, by rw [hl]; simpa using hG.1, ?_⟩
          · exact hl.symm
          · simp only [List.drop_zero]
            rw [hl, htk]
            exact flatL_refl _ _ (strs_flat _)
  · cases h
theorem mcloneO_ok {args : List Value} {H : Heap} {nx : Nat} {v : Value} {H' : Heap} {nx' : Nat} (h : mcloneO args H nx = some (v, H', nx')) : CS Tryz.prog 59 args H nx v H' nx' := by
  unfold mcloneO at h
  split at h
  · cases h
    exact cs_flatG enters59 rfl rfl (fun w _ => (mclone_nil w).mono fun e w' ⟨h1, h2⟩ => ⟨h1, h2 ▸ below_self⟩) H nx
  · rename_i r
    rw [getB_eq] at h
    cases hg : getH H r with
    | none => rw [hg] at h; cases h
    | some blk =>
      rw [hg] at h
      dsimp only [Option.elim_some] at h
      split at h
      · rename_i es k
        rw [hsK_eq, forceN_eq] at h; cases h
        refine ⟨enters59, fun F args' w hr hv => ?_⟩
        cases hv with
        | cons hv hv2 =>
        cases hv2
        cases hv with
        | @map _ t hF =>
        obtain ⟨hb0, es', c', hw, hcl, hel, hst⟩ := hr.hb.get hF hg
        refine (mclone_w t.blk es' c' w hw).mono fun e w' ⟨he, hw'⟩ => ?_
        subst hw'
        have hfresh : F nx = none := hr.fresh nx (Nat.le_refl _)
        refine ⟨_, upd F nx ⟨w.heap.size, 0, 0, 0, 0⟩, he, VR.map (upd_same F nx ⟨w.heap.size, 0, 0, 0, 0⟩), Stp.name hr rfl rfl rfl rfl (by simp) (fun k hk => alloc_get w _ k hk) ⟨rfl, es', c', alloc_top w _, hcl, hel.mono (upd_le hfresh _), hst⟩ (Nat.le_refl _)⟩
      · cases h
  · cases h
theorem namesK_inv {H : Heap} {nx r : Nat} {v : Value} {H' : Heap} {nx' : Nat} (h : namesK H nx r = some (v, H', nx')) : ∃ es c zs, getH H r = some (.map es c) ∧ keysS es = some zs ∧ zs.length ≤ 1000 ∧ v = (newS (sortB zs) H nx).1 ∧ H' = (newS (sortB zs) H nx).2.1 ∧ nx' = (newS (sortB zs) H nx).2.2 := by
  unfold namesK at h
  rw [getB_eq] at h
  cases hg : getH H r with
  | none => rw [hg] at h; cases h
  | some blk =>
    rw [hg] at h
    dsimp only [Option.elim_some] at h
    split at h
    · rename_i es c
      split at h
      · rename_i zs hz
        cases hb : Nat.ble zs.length 1000 with
        | false => rw [hb] at h; cases h
        | true =>
          rw [hb] at h
          simp only [cond_true] at h
          rw [newK_eq] at h; cases h
          exact ⟨es, c, zs, rfl, hz, Nat.le_of_ble_eq_true hb, rfl, rfl, rfl⟩
      · cases h
    · cases h
theorem namesO_ok {args : List Value} {H : Heap} {nx : Nat} {v : Value} {H' : Heap} {nx' : Nat} (h : namesO args H nx = some (v, H', nx')) : CS Tryz.prog 14 args H nx v H' nx' := by
  unfold namesO at h
  split at h
  · cases h; exact names14_nil_cs _ H nx
  · obtain ⟨es, c, zs, hg, hz, hl, rfl, rfl, rfl⟩ := namesK_inv h
    exact names14_cs _ hg hz hl
  · cases h
theorem dbNamesO_ok {args : List Value} {H : Heap} {nx : Nat} {v : Value} {H' : Heap} {nx' : Nat} (h : dbNamesO args H nx = some (v, H', nx')) : CS Tryz.prog 46 args H nx v H' nx' := by
  unfold dbNamesO at h
  split at h
  · obtain ⟨es, c, zs, hg, hz, hl, rfl, rfl, rfl⟩ := namesK_inv h
    exact names46_cs hg hz hl
  · cases h
theorem orc_ok : OrcOK Tryz.prog orc := by
  intro f o h args H nx v H' nx' ho
  unfold orc at h
  have beq : ∀ {n : Nat}, Nat.beq f n = true → f = n := fun h => Nat.eq_of_beq_eq_true h
  cases h1 : Nat.beq f 94 with
  | true => rw [h1] at h; cases h; rw [beq h1]; exact cloneO_ok ho
  | false =>
  rw [h1] at h; simp only [cond_false] at h
  cases h2 : Nat.beq f 46 with
  | true => rw [h2] at h; cases h; rw [beq h2]; exact dbNamesO_ok ho
  | false =>
  rw [h2] at h; simp only [cond_false] at h
  cases h3 : Nat.beq f 14 with
  | true => rw [h3] at h; cases h; rw [beq h3]; exact namesO_ok ho
  | false =>
  rw [h3] at h; simp only [cond_false] at h
  cases h4 : Nat.beq f 59 with
  | true => rw [h4] at h; cases h; rw [beq h4]; exact mcloneO_ok ho
  | false =>
  rw [h4] at h; simp only [cond_false] at h
  cases h5 : Nat.beq f 253 with
  | true => rw [h5] at h; cases h; rw [beq h5]; exact growO_ok ho
  | false =>
  rw [h5] at h; simp only [cond_false] at h
  cases h6 : Nat.beq f 203 with
  | true => rw [h6] at h; cases h; rw [beq h6]; exact tzO_ok ho
  | false =>
  rw [h6] at h; simp only [cond_false] at h
  cases h7 : Nat.beq f 185 with
  | true => rw [h7] at h; cases h; rw [beq h7]; exact compareO_ok ho
  | false => rw [h7] at h; cases h
end Go.Proofs.YtchmiblahedkcaaGreatDoor
