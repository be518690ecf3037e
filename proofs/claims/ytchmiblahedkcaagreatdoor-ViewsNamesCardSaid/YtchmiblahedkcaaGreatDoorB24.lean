/-
  maps.Copy into a new map, as the executor's abstract heaps have it.
-/
import Derived.Test.YtchmiblahedkcaaGreatDoorB20
import Derived.Test.YtchmiblahedkcaaGreatDoorB23
set_option linter.all false
namespace Go.Proofs.YtchmiblahedkcaaGreatDoor
open Go.Clo

/-- A view's value: seven cells. -/
def viewV : Value → Bool
  | .agg ⟨[a, b, c, d, e, f, g]⟩ => oneCells [a, b, c, d, e, f, g]
  | _ => false
theorem view_real {F : FM} {v v' : Value} (hv : VR F v v') (h : viewV v = true) : RV v' = some (.held v', []) := by
  unfold viewV at h
  split at h
  · rename_i a b c d e f g
    cases hv with
    | @agg _ x' h1 h2 =>
      have hvl : VL F [a, b, c, d, e, f, g] x'.toList := VL.ofArr (x := ⟨[a, b, c, d, e, f, g]⟩) h1 h2
      have ho := oneCell_of hvl h
      have hlen : x'.toList.length = 7 := by simpa using hvl.length.symm
      match hy : x'.toList, hlen with
      | [p, q, r, s, t, u, z], _ =>
        have hx : x' = ⟨[p, q, r, s, t, u, z]⟩ := by rw [← Array.toArray_toList (xs := x'), hy]
        subst hx
        have k := fun y hm => ho y (by rw [hy]; exact hm)
        show (if _ then _ else _) = _
        rw [if_pos ⟨k p (by simp), k q (by simp), k r (by simp), k s (by simp), k t (by simp), k u (by simp), k z (by simp)⟩]
  · cases h
theorem enters34 : Go.Clo.Enters Tryz.prog 34 := ⟨_, _, Tryz.func34, rfl, by kernel_rfl⟩
/-- The entries, when it is not told in which order they came. -/
def unborn (es : List MapEntry) : List MapEntry := es.map fun e => ⟨e.key, e.val, unb⟩
theorem K9 : Go.Maps.Keyed Tryz.prog 9 := Go.Maps.string_keyed Tryz.underlying9
theorem fit_view {F : FM} {es : List MapEntry} {es' : Array MapEntry} {c' : Nat} {zs : List ByteArray} (h : ML F es es'.toList) (hst : MapKept.Stamped es' c') (hz : keysS es = some zs) (hl : zs.length ≤ 1000) (hv : ∀ e ∈ es, viewV e.val = true) :
    Go.WideElems.Fit Tryz.prog 9 RV es' c' := by
  obtain ⟨k1, _, k3⟩ := keys_world h hz
  refine ⟨by unfold maxLen; omega, hst, fun x hx => ?_⟩
  obtain ⟨s, hs, hl⟩ := k1 x hx
  obtain ⟨e, he, hk⟩ := h.bwd x hx
  obtain ⟨_, e', he', hk', hvr, _⟩ := h.fwd e he
  have hxe : e' = x := by
    have h1 := h.nd'
    have := (List.pairwise_map.1 h1)
    rcases Classical.em (e' = x) with g | g
    · exact g
    · exfalso
      have hkk : e'.key = x.key := by rw [hk', hk]
      obtain ⟨i, hi, e1⟩ := List.mem_iff_getElem.1 he'
      obtain ⟨j, hj, e2⟩ := List.mem_iff_getElem.1 hx
      have hij : i ≠ j := fun e3 => g (by subst e3; rw [← e1, ← e2])
      have hn := List.pairwise_iff_getElem.1 this
      rcases Nat.lt_or_ge i j with h3 | h3
      · exact hn i j hi hj h3 (by rw [e1, e2, hkk])
      · exact hn j i hj hi (by omega) (by rw [e1, e2, hkk])
  subst hxe
  exact ⟨(.string s.data.toList, .held e'.val), by unfold Go.WideElems.rd; rw [hs, key_lit hl, view_real hvr (hv e he)]; rfl⟩
theorem mcopy34_nil_cs (d : Nat) {blk : Blk} (H : Heap) (nx : Nat) (hd : getH H d = some blk) : CS Tryz.prog 34 [.map (some d), .map none] H nx (.tuple ⟨[]⟩) H nx := by
  refine ⟨enters34, fun F args' w hr hv => ?_⟩
  cases hv with
  | cons h1 hv2 =>
  cases hv2 with
  | cons h2 hv3 =>
  cases hv3
  cases h1 with
  | @map _ t hF =>
  cases h2
  refine (mcopy34_nil (some t.blk) w).mono fun e w' ⟨he, hw⟩ => ?_
  subst hw
  have hb : RowKit.Below w.heap.size w (w.alloc (.mapIter none 0 #[] 0)) := (RowKit.Below.refl _ w).alloc (Nat.le_refl _) _
  refine ⟨_, F, he, VR.tuple' .nil, ⟨Nat.le_refl _, fun _ _ => rfl, hb.os, hb.tape, hb.output, hb.size, fun k hk _ => hb.block k hk, fun b hb => .inl hb, fun i _ h => h, fun i b hg _ => ⟨hr.low hg, hg⟩, ?_⟩⟩
  exact ⟨fun i b hi hg => let ⟨t, h1, h2⟩ := hr.blk i b hi hg; ⟨t, h1, h2.mono (fun _ _ h => h) (hb.block _ h2.lt)⟩, hr.inj, hr.fresh, hr.top, hr.gl.step (fun k hk _ => hb.block k hk) fun b hb => .inl hb⟩
theorem mcopy34_cs {d r : Nat} {es : List MapEntry} {c : Nat} {zs : List ByteArray} {H : Heap} {nx : Nat} (hd : getH H d = some (.map [] 0)) (hg : getH H r = some (.map es c)) (hz : keysS es = some zs) (hl : zs.length ≤ 1000) (hv : ∀ e ∈ es, viewV e.val = true) (hne : d ≠ r) :
    CS Tryz.prog 34 [.map (some d), .map (some r)] H nx (.tuple ⟨[]⟩) (hs H d (some (.map (unborn es) unb))) nx := by
  refine ⟨enters34, fun F args' w hr hvl => ?_⟩
  cases hvl with
  | cons h1 hv2 =>
  cases hv2 with
  | cons h2 hv3 =>
  cases hv3
  cases h1 with
  | @map _ td hFd =>
  cases h2 with
  | @map _ ts hFs =>
  obtain ⟨hb0, ed, cd, hwd, _, hmd, hsd⟩ := hr.hb.get hFd hd
  obtain ⟨_, es', cs, hws, _, hms, hss⟩ := hr.hb.get hFs hg
  have hed : ed = #[] := by
    have := hmd.len
    simp at this
    exact Array.eq_empty_of_size_eq_zero this.symm
  subst hed
  have hnb : td.blk ≠ ts.blk := fun e => by
    rcases hr.inj d r _ _ td ts (hr.hb.lt hFd) (hr.hb.lt hFs) hd hg hFd hFs e with h | h
    · exact hne h
    · cases h.1
  obtain ⟨k1, k2, k3⟩ := keys_world hms hz
  have fit := fit_view hms hss hz hl hv
  let Ds : DataW Value := .map ((es'.toList.map (Go.WideElems.rg Tryz.prog 9 RV)).foldr DataW.insert [])
  have hs1 : w.ownsMap Tryz.prog 9 RV ts.blk es'.size Ds := ⟨es', cs, hws, fit, Nat.le_refl _, rfl⟩
  have hd1 : w.ownsMap Tryz.prog 9 RV td.blk 0 (.map []) := ⟨#[], cd, hwd, ⟨by simp, hsd, by simp⟩, by simp, rfl⟩
  have hsz : Go.Maps.size Ds = es'.size := by show ((es'.toList.map _).foldr DataW.insert []).length = _; exact Go.length_read es'
  refine (mcopy34_w td.blk ts.blk 0 es'.size Ds w K9 hd1 hs1 hnb (by rw [hsz]; unfold maxLen; omega)).mono fun e w' ⟨he, hown, hgr⟩ => ?_
  obtain ⟨eo, co, hwo, fo, hso, hDo⟩ := hown
  -- the two rows of entries are one, but for their order
  have hperm : (eo.toList.map (Go.WideElems.rg Tryz.prog 9 RV)).Perm (es'.toList.map (Go.WideElems.rg Tryz.prog 9 RV)) := by
    have e1 : (es'.toList.map (Go.WideElems.rg Tryz.prog 9 RV)).foldr DataW.insert [] = (eo.toList.map (Go.WideElems.rg Tryz.prog 9 RV)).foldr DataW.insert [] := by
      have := hDo; simp only [Ds, DataW.map.injEq] at this; exact this
    have p1 := Go.WideShapes.sorted_perm (eo.toList.map (Go.WideElems.rg Tryz.prog 9 RV))
    have p2 := Go.WideShapes.sorted_perm (es'.toList.map (Go.WideElems.rg Tryz.prog 9 RV))
    rw [← e1] at p1
    exact p1.symm.trans p2
  have same : ∀ (A B : Array MapEntry) (ca cb : Nat), Go.WideElems.Fit Tryz.prog 9 RV A ca → Go.WideElems.Fit Tryz.prog 9 RV B cb → (A.toList.map (Go.WideElems.rg Tryz.prog 9 RV)).Perm (B.toList.map (Go.WideElems.rg Tryz.prog 9 RV)) →
      ∀ x ∈ A.toList, ∃ y ∈ B.toList, y.key = x.key ∧ y.val = x.val := by
    intro A B ca cb fa fb hp x hx
    obtain ⟨yx, hyx⟩ := fa.reads x hx
    have hm : Go.WideElems.rg Tryz.prog 9 RV x ∈ B.toList.map (Go.WideElems.rg Tryz.prog 9 RV) := hp.mem_iff.1 (List.mem_map.2 ⟨x, hx, rfl⟩)
    obtain ⟨y, hy, hyr⟩ := List.mem_map.1 hm
    obtain ⟨yy, hyy⟩ := fb.reads y hy
    rw [Go.WideElems.rg_of hyx, Go.WideElems.rg_of hyy] at hyr
    subst hyr
    have hk := K9.inj (Go.WideElems.rd_key hyy) (Go.WideElems.rd_key hyx)
    obtain ⟨⟨zx, px⟩, hzx, hex⟩ := Go.WideElems.rd_val hyx
    obtain ⟨⟨zy, py⟩, hzy, hey⟩ := Go.WideElems.rd_val hyy
    obtain ⟨_, _, _, _, _, _, _, _, e1, _⟩ := RV_inv hzx
    obtain ⟨_, _, _, _, _, _, _, _, e2, _⟩ := RV_inv hzy
    simp only at hex hey
    rw [e1] at hex; rw [e2] at hey
    rw [hex] at hey
    exact ⟨y, hy, hk, by simpa using hey.symm⟩
  have fwd := same es' eo cs co fit fo hperm.symm
  have bwd := same eo es' co cs fo fit hperm
  obtain ⟨cc, hc1, hc2⟩ := hms.cls
  have hml : ML F (unborn es) eo.toList := by
    have hkm : (unborn es).map (·.key) = es.map (·.key) := by unfold unborn; rw [List.map_map]; rfl
    refine ⟨by rw [hkm]; exact hms.nd, fo.stamped.2.2, ?_, ⟨cc, fun e he => ?_, fun e he => ?_⟩, fun e he => ?_, fun e he => ?_⟩
    · have h1 := hms.len
      have h2 := hperm.length_eq
      simp only [List.length_map] at h2
      unfold unborn; rw [List.length_map, h1, h2]
    · obtain ⟨e1, he1, rfl⟩ := List.mem_map.1 he; exact hc1 e1 he1
    · obtain ⟨y, hy, hk, _⟩ := bwd e he
      rw [← hk]; exact hc2 y hy
    · obtain ⟨e1, he1, rfl⟩ := List.mem_map.1 he
      obtain ⟨f1, y, hy, hk, hvr, _⟩ := hms.fwd e1 he1
      obtain ⟨z, hz', hk2, hv2⟩ := fwd y hy
      exact ⟨f1, z, hz', by rw [hk2, hk], by rw [hv2]; exact hvr, .inr rfl⟩
    · obtain ⟨y, hy, hk, _⟩ := bwd e he
      obtain ⟨x, hx, hkx⟩ := hms.bwd y hy
      exact ⟨⟨x.key, x.val, unb⟩, List.mem_map.2 ⟨x, hx, rfl⟩, by show x.key = _; rw [hkx, hk]⟩
  refine ⟨_, F, he, VR.tuple' .nil, Stp.updateG hr (hr.hb.lt hFd) hd rfl rfl hFd hgr.os hgr.tape hgr.output hgr.size (fun k hk hk2 => hgr.block k hk2 (fun e => hk (Option.some.inj e))) ⟨hb0, eo, co, hwo, .inr rfl, hml, fo.stamped⟩⟩
end Go.Proofs.YtchmiblahedkcaaGreatDoor
