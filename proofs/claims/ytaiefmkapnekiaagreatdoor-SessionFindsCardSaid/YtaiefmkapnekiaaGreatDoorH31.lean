/-
  Rows of plain cells in the world, as the oracles read them; bytes.Compare.
-/
import Derived.Shelf.Abstract
import Derived.WalkKit
import Derived.Lib.Bytealg
import Derived.Laws.Externs
import Derived.Test.YtaiefmkapnekiaaGreatDoorH20
import Derived.Test.YtaiefmkapnekiaaGreatDoorH16
set_option linter.all false
namespace Go.Clo
theorem row_cells {F : FM} {t : Tgt} {b : Blk} {c : List Value} {w : World} (h : BR F t b w) (hrow : b.row = some c) {o m : Nat} {l : List Value} (hl : takeN m (c.drop o) = some l) (hfl : l.all flat1 = true) :
    (∀ j v, l[j]? = some v → w.cell? ⟨t.blk, t.base + o + j, none⟩ = some v) ∧ l.length = m := by
  obtain ⟨e1, e2⟩ := takeN_eq hl
  obtain ⟨c', e, mk, h1, h5, h6⟩ := h.row hrow
  have hv : VL F l (((((c'.toList.drop t.base).take c.length).drop o).take m)) := by rw [e1]; exact (h6.drop o).take m
  have e3 := flatL_eq hv hfl
  refine ⟨fun j v hj => ?_, e2⟩
  rw [← e3] at hj
  have hj2 : j < m := by
    rcases Nat.lt_or_ge j m with g | g
    · exact g
    · simp [List.getElem?_take, Nat.not_lt.2 g] at hj
  have hoc : o + j < c.length := by
    rcases Nat.lt_or_ge (o + j) c.length with g | g
    · exact g
    · simp [List.getElem?_take, hj2, Nat.not_lt.2 g] at hj
  simp [List.getElem?_take, hj2, hoc] at hj
  simp [World.cell?, h1, Nat.add_assoc, hj]
/-- What a slice's row is in the world. -/
inductive RowW (w : World) (l : List Value) : Value → Prop
  | nil {c : Nat} (h : l = []) : RowW w l (.slice none 0 c)
  | row {b o c : Nat} (h : ∀ j v, l[j]? = some v → w.cell? ⟨b, o + j, none⟩ = some v) : RowW w l (.slice (some ⟨b, o, none⟩) l.length c)
end Go.Clo
namespace Go.Proofs.YtaiefmkapnekiaaGreatDoor
open Go.Clo
theorem rowK_inv {H : Heap} {a : Addr} {n : Nat} {k : List Value → Option (Value × Heap × Nat)} {r : Value × Heap × Nat} (h : rowK H a n none k = some r) :
    ∃ b o blk c l, a = ⟨b, o, none⟩ ∧ getH H b = some blk ∧ blk.row = some c ∧ takeN n (c.drop o) = some l ∧ k l = some r := by
  obtain ⟨b, o, s⟩ := a
  unfold rowK at h
  cases s with
  | some q => cases h
  | none =>
    dsimp only at h
    rw [getB_eq] at h
    cases hg : getH H b with
    | none => rw [hg] at h; cases h
    | some blk =>
      rw [hg] at h
      dsimp only [Option.elim_some] at h
      split at h
      · split at h
        · rename_i l hl
          rw [spine_eq] at h
          exact ⟨b, o, _, _, l, rfl, hg, rfl, hl, h⟩
        · cases h
      · split at h
        · rename_i l hl
          rw [spine_eq] at h
          exact ⟨b, o, _, _, l, rfl, hg, rfl, hl, h⟩
        · cases h
      · cases h
theorem rowK_world {H : Heap} {a : Addr} {n cap : Nat} {k : List Value → Option (Value × Heap × Nat)} {r : Value × Heap × Nat} (h : rowK H a n none k = some r) : ∃ l, k l = some r ∧
    ∀ {F : FM} {nx : Nat} {w : World} {v' : Value}, HR F H nx w → VR F (.slice (some a) n cap) v' → l.all flat1 = true → RowW w l v' := by
  obtain ⟨b, o, blk, c, l, rfl, hg, hrow, hl, hk⟩ := rowK_inv h
  refine ⟨l, hk, fun {F nx w v'} hr hv hfl => ?_⟩
  obtain ⟨_, t, c', hF, h3, _⟩ := hv.slice_inv
  obtain ⟨h1, h2⟩ := row_cells (hr.hb.get hF hg) hrow hl hfl
  subst h3
  rw [← h2]
  exact .row h1
theorem sliceK_world {H : Heap} {v : Value} {k : List Value → Option (Value × Heap × Nat)} {r : Value × Heap × Nat} (h : sliceK H v k = some r) : ∃ l, k l = some r ∧
    ∀ {F : FM} {nx : Nat} {w : World} {v' : Value}, HR F H nx w → VR F v v' → l.all flat1 = true → RowW w l v' := by
  unfold sliceK at h
  split at h
  · refine ⟨[], h, fun {F nx w v'} hr hv _ => ?_⟩
    have := hv.sliceN_inv
    subst this
    exact .nil rfl
  · exact rowK_world h
  · cases h

/-! bytes.Compare. -/
theorem bytesA_flat {l : List Value} {bs : List UInt8} (h : bytesA l = some bs) : l = (bs.map fun b => (b.toNat : Int)).map (Value.int .u8) ∧ l.all flat1 = true := by
  have := bytesA_spec h
  exact ⟨this, by rw [this]; exact ints_flat _⟩
theorem run_loadBytes {P : Program} (w : World) (B : Nat) : ∀ (bs : List UInt8) (o : Nat) (acc : ByteArray), (∀ j b, bs[j]? = some b → w.cell? ⟨B, o + j, none⟩ = some (.int .u8 (b.toNat : Int))) →
    (Extern.Bytes.loadBytes ⟨B, o, none⟩ bs.length acc).run P w = .ok (bs.foldl ByteArray.push acc) w
  | [], o, acc, h => rfl
  | b :: bs, o, acc, h => by
    have h0 := h 0 b rfl
    rw [Nat.add_zero] at h0
    have e : b.toNat.toUInt8 = b := by simp
    have ih := run_loadBytes (P := P) w B bs (o + 1) (acc.push b) fun j b' hj => by
      have := h (j + 1) b' (by simpa using hj)
      rw [show o + (j + 1) = o + 1 + j by omega] at this
      exact this
    simp only [List.length_cons, Extern.Bytes.loadBytes, Sem.run_bind, run_load, h0, Result.andThen_ok, add_addr, Int.toNat_natCast, e, ih, List.foldl_cons]
theorem push_fold : ∀ (bs : List UInt8) (acc : ByteArray), (bs.foldl ByteArray.push acc).data.toList = acc.data.toList ++ bs
  | [], acc => by simp
  | b :: bs, acc => by rw [List.foldl_cons, push_fold bs]; simp [ByteArray.push]
theorem run_bytesOf {P : Program} {w : World} {bs : List UInt8} {v : Value} (h : RowW w ((bs.map fun b => (b.toNat : Int)).map (Value.int .u8)) v) : ∃ s : ByteArray, (Extern.Bytes.bytesOf v).run P w = .ok s w ∧ s.data.toList = bs := by
  cases h with
  | nil h =>
    refine ⟨.empty, rfl, ?_⟩
    cases bs with
    | nil => rfl
    | cons b bs => simp at h
  | @row b o c h =>
    refine ⟨bs.foldl ByteArray.push .empty, ?_, by rw [push_fold]; rfl⟩
    have := run_loadBytes (P := P) w b bs o .empty fun j x hj => h j _ (by simp [hj])
    simpa [Extern.Bytes.bytesOf] using this
theorem run_cmp {P : Program} {w : World} {x y : List UInt8} {a b : Value} (ha : RowW w ((x.map fun b => (b.toNat : Int)).map (Value.int .u8)) a) (hb : RowW w ((y.map fun b => (b.toNat : Int)).map (Value.int .u8)) b) :
    (Extern.BytealgCompare.compare #[a, b]).run P w = .ok (.int .i64 (Lib.compareBytes x y)) w := by
  obtain ⟨s, h1, rfl⟩ := run_bytesOf (P := P) ha
  obtain ⟨t, h2, rfl⟩ := run_bytesOf (P := P) hb
  change Sem.run P (do pure (goInt (Extern.BytealgCompare.cmp (← Extern.Bytes.bytesOf a) (← Extern.Bytes.bytesOf b)))) w = _
  simp only [Sem.run_bind, h1, h2, Sem.run_pure, Result.andThen_ok]
  rw [Lib.cmp_eq]
  rfl
set_option maxRecDepth 100000 in
theorem bcompare_w (a b : Value) (x y : List UInt8) (w : World) (ha : RowW w ((x.map fun b => (b.toNat : Int)).map (Value.int .u8)) a) (hb : RowW w ((y.map fun b => (b.toNat : Int)).map (Value.int .u8)) b) :
    Calls Tryz.prog 306 #[a, b] w fun e w' => e = .returned (.int .i64 (Lib.compareBytes x y)) ∧ w' = w := by
  have hc := run_cmp (P := Tryz.prog) ha hb
  clear ha hb
  go_enter Tryz.func306, Tryz.ntmps306
  go_wp2
  rw [run_callFunc_extern Tryz.func370 (by kernel_rfl) (by kernel_rfl) (by kernel_rfl) (e := Extern.BytealgCompare.compare) (by kernel_rfl), hc]
  simp only [Result.andThen]
  rw [Oper.upon_value]
  go_wp2
  go_ret
  exact ⟨rfl, rfl⟩
theorem enters304 : Go.Clo.Enters Tryz.prog 306 := ⟨_, _, Tryz.func306, rfl, by kernel_rfl⟩
theorem below_self {w : World} : RowKit.Below w.heap.size w w := RowKit.Below.refl _ w
/-- The step of a call that answers a plain value and only grows the world. -/
theorem stp_below {F : FM} {H : Heap} {nx : Nat} {w w' : World} (hr : HR F H nx w) (hb : RowKit.Below w.heap.size w w') : Stp F H nx w F H nx w' :=
  ⟨Nat.le_refl _, fun _ _ => rfl, hb.os, hb.tape, hb.output, hb.size, fun k hk _ => hb.block k hk, fun b hb => .inl hb, fun i _ h => h, fun i b hg _ => ⟨hr.low hg, hg⟩,
   ⟨fun i b hi hg => let ⟨t, h1, h2⟩ := hr.blk i b hi hg; ⟨t, h1, h2.mono (fun _ _ h => h) (hb.block _ h2.lt)⟩, hr.inj, hr.fresh, hr.top, hr.gl.step (fun k hk _ => hb.block k hk) fun b hb => .inl hb⟩⟩
theorem bcompareO_ok {args : List Value} {H : Heap} {nx : Nat} {v : Value} {H' : Heap} {nx' : Nat} (h : bcompareO args H nx = some (v, H', nx')) : CS Tryz.prog 306 args H nx v H' nx' := by
  unfold bcompareO at h
  split at h
  · rename_i a b
    obtain ⟨x, h, hx⟩ := sliceK_world h
    obtain ⟨y, h, hy⟩ := sliceK_world h
    split at h
    · rename_i x' y' e1 e2
      rw [forceI_eq] at h; cases h
      obtain ⟨f1, f2⟩ := bytesA_flat e1
      obtain ⟨g1, g2⟩ := bytesA_flat e2
      refine ⟨enters304, fun F args' w hr hv => ?_⟩
      cases hv with
      | cons hv hv2 =>
      cases hv2 with
      | cons hv2 hv3 =>
      cases hv3
      have r1 := hx hr hv f2
      have r2 := hy hr hv2 g2
      rw [f1] at r1
      rw [g1] at r2
      refine (bcompare_w _ _ x' y' w r1 r2).mono fun e w' ⟨he, hw⟩ => ?_
      subst hw
      exact ⟨_, F, he, .int _ _, stp_below hr below_self⟩
    · cases h
  · cases h
end Go.Proofs.YtaiefmkapnekiaaGreatDoor
