/-
  Sorted keys of a map, and maps.Keys, over abstract heaps.
-/
import Derived.Test.YtaiefmkapnekiaaGreatDoorH17
import Derived.Test.YtaiefmkapnekiaaGreatDoorH18
set_option linter.all false
namespace Go.Proofs.YtaiefmkapnekiaaGreatDoor
open Go.Clo

/-! Sorting, in general. -/
section
variable {α : Type} {lt : α → α → Bool}
theorem insG_perm (z : α) : ∀ l : List α, (insG lt z l).Perm (z :: l)
  | [] => List.Perm.refl _
  | x :: l => by
    simp only [insG]
    cases lt x z with
    | true => exact ((insG_perm z l).cons x).trans (List.Perm.swap _ _ _)
    | false => exact List.Perm.refl _
theorem sortG_perm : ∀ l : List α, (sortG lt l).Perm l
  | [] => List.Perm.refl _
  | z :: l => (insG_perm z _).trans ((sortG_perm l).cons z)
variable {le : α → α → Prop} (tr : ∀ a b c, le a b → le b c → le a c) (h1 : ∀ a b, lt a b = true → le a b) (h2 : ∀ a b, lt a b = false → le b a)
include tr h1 h2
theorem insG_sorted (z : α) : ∀ l : List α, l.Pairwise le → (insG lt z l).Pairwise le
  | [], _ => by simp [insG]
  | x :: l, h => by
    have hx := List.pairwise_cons.1 h
    simp only [insG]
    cases hb : lt x z with
    | true =>
      simp only [cond_true]
      refine List.pairwise_cons.2 ⟨fun y hy => ?_, insG_sorted z l hx.2⟩
      rcases List.mem_cons.1 ((insG_perm z l).mem_iff.1 hy) with rfl | hy
      · exact h1 _ _ hb
      · exact hx.1 y hy
    | false =>
      simp only [cond_false]
      refine List.pairwise_cons.2 ⟨fun y hy => ?_, h⟩
      rcases List.mem_cons.1 hy with rfl | hy
      · exact h2 _ _ hb
      · exact tr _ _ _ (h2 _ _ hb) (hx.1 y hy)
theorem sortG_sorted : ∀ l : List α, (sortG lt l).Pairwise le
  | [] => .nil
  | z :: l => insG_sorted tr h1 h2 z _ (sortG_sorted l)
end
theorem sortZ_perm (zs : List Int) : (sortZ zs).Perm zs := sortG_perm zs
theorem sortB_perm (zs : List ByteArray) : (sortB zs).Perm zs := sortG_perm zs
theorem sortZ_is {ss zs : List Int} (h : ss.Perm zs) : (ss.mergeSort fun x y => decide (x ≤ y)) = sortZ zs := by
  have hs : (sortZ zs).Pairwise (· ≤ ·) := sortG_sorted (lt := fun a b => ltI a b) (le := fun a b => a ≤ b) (fun a b c => Int.le_trans) (fun a b h => by rw [ltI_eq, decide_eq_true_eq] at h; omega) (fun a b h => by rw [ltI_eq, decide_eq_false_iff_not] at h; omega) zs
  refine List.Perm.eq_of_pairwise (le := fun a b => decide (a ≤ b) = true) (fun a b _ _ h1 h2 => ?_) (List.pairwise_mergeSort (fun a b c h1 h2 => ?_) (fun a b => ?_) ss) (hs.imp fun h => by simpa using h) ((List.mergeSort_perm _ _).trans (h.trans (sortZ_perm zs).symm))
  · simp only [decide_eq_true_eq] at h1 h2; omega
  · simp only [decide_eq_true_eq] at *; omega
  · simp only [Bool.or_eq_true, decide_eq_true_eq]; omega
theorem bytes_inj {a b : ByteArray} (h : a.data.toList = b.data.toList) : a = b := by
  cases a; cases b; simpa using h
def leA (a b : ByteArray) : Prop := a.data.toList ≤ b.data.toList
theorem sortB_is {ss : List (List UInt8)} {zs : List ByteArray} (h : ss.Perm (zs.map fun z => z.data.toList)) : (ss.mergeSort fun x y => decide (x ≤ y)).map encStr = strs (sortB zs) := by
  have hs : (sortB zs).Pairwise leA := sortG_sorted (lt := fun (a b : ByteArray) => Op.bytesLess a.data.toList b.data.toList) (le := leA) (fun a b c h1 h2 => List.le_trans h1 h2) (fun a b h => by rw [Go.Proofs.bytesLess_eq, decide_eq_true_eq] at h; exact List.le_of_lt h)
    (fun a b h => by rw [Go.Proofs.bytesLess_eq, decide_eq_false_iff_not] at h; exact List.not_lt.1 h) zs
  have hp : (ss.mergeSort fun x y => decide (x ≤ y)) = (sortB zs).map fun z => z.data.toList := by
    refine List.Perm.eq_of_pairwise (le := fun a b => decide (a ≤ b) = true) (fun a b _ _ h1 h2 => ?_) (List.pairwise_mergeSort (fun a b c h1 h2 => ?_) (fun a b => ?_) ss) ?_ ?_
    · simp only [decide_eq_true_eq] at h1 h2; exact List.le_antisymm h1 h2
    · simp only [decide_eq_true_eq] at *; exact List.le_trans h1 h2
    · simp only [Bool.or_eq_true, decide_eq_true_eq]; exact List.le_total a b
    · rw [List.pairwise_map]; exact hs.imp fun h => by simpa [leA] using h
    · exact (List.mergeSort_perm _ _).trans (h.trans ((sortB_perm zs).map _).symm)
  rw [hp, List.map_map]
  simp [strs, encStr, Function.comp_def]

/-! Keys. -/
theorem wf_int {x : Int} (h : 0 ≤ x ∧ x ≤ 1000000) : (Lit.int .i64 x).wf = true := by
  have h1 : IntKind.i64.min = -9223372036854775808 := by decide
  have h2 : IntKind.i64.max = 9223372036854775807 := by decide
  simp only [Lit.wf, Bool.and_eq_true, decide_eq_true_eq, h1, h2]; omega
/-- The keys in the world are those in the heap. -/
theorem keys_perm {F : FM} {es es' : List MapEntry} (h : ML F es es') : (es'.map (·.key)).Perm (es.map (·.key)) := by
  refine (List.perm_ext_iff_of_nodup h.nd' h.nd).2 fun k => ⟨fun hk1 => ?_, fun hk1 => ?_⟩
  · obtain ⟨e, he, rfl⟩ := List.mem_map.1 hk1
    obtain ⟨e0, h0, hk0⟩ := h.bwd e he
    exact List.mem_map.2 ⟨e0, h0, hk0⟩
  · obtain ⟨e, he, rfl⟩ := List.mem_map.1 hk1
    obtain ⟨_, e', h0, hk0, _⟩ := h.fwd e he
    exact List.mem_map.2 ⟨e', h0, hk0⟩
theorem rg_lit {k : TypeId} {e : MapEntry} {l : Lit} (h : keyOf Tryz.prog k e.key = some l) : (Go.WideElems.rg Tryz.prog k RU e).1 = l := by
  have hr : Go.WideElems.rd Tryz.prog k RU e = some (l, .nil) := by unfold Go.WideElems.rd RU; rw [h]; rfl
  rw [Go.WideElems.rg_of hr]
set_option maxRecDepth 100000 in
theorem worldI {F : FM} {es : List MapEntry} {es' : Array MapEntry} {zs : List Int} (h : ML F es es'.toList) (hz : keysI es = some zs) :
    (∀ e ∈ es'.toList, ∃ x : Int, e.key = .int .i64 x ∧ (Lit.int .i64 x).wf = true) ∧ (Go.intKeys (datumK 3 es')).Perm zs ∧ es'.size = zs.length := by
  obtain ⟨g1, g2⟩ := keysI_map hz
  have hk : ∀ e ∈ es'.toList, ∃ x : Int, e.key = .int .i64 x ∧ (Lit.int .i64 x).wf = true := by
    intro e he
    obtain ⟨e0, h0, hk0⟩ := h.bwd e he
    have : e0.key ∈ es.map (·.key) := List.mem_map.2 ⟨e0, h0, rfl⟩
    rw [g1] at this
    obtain ⟨z, hz', e1⟩ := List.mem_map.1 this
    exact ⟨z, by rw [← hk0, ← e1], wf_int (g2 z hz')⟩
  refine ⟨hk, ?_, ?_⟩
  · have hp1 : (Go.intKeys (datumK 3 es')).Perm (es'.toList.map fun e => Go.intOf (Go.WideElems.rg Tryz.prog 3 RU e).1) := by
      simp only [datumK, Go.intKeys]
      have := (Go.WideShapes.sorted_perm (es'.toList.map (Go.WideElems.rg Tryz.prog 3 RU))).map fun p => Go.intOf p.1
      rw [List.map_map] at this
      exact this
    refine hp1.trans ?_
    have e1 : (es'.toList.map fun e => Go.intOf (Go.WideElems.rg Tryz.prog 3 RU e).1) = (es'.toList.map (·.key)).map fun v => match v with | .int _ x => x | _ => 0 := by
      rw [List.map_map]
      refine List.map_congr_left fun e he => ?_
      obtain ⟨s, hs, hl⟩ := hk e he
      rw [rg_lit (by rw [hs]; exact key_int hl)]
      simp [hs, Go.intOf]
    rw [e1]
    have hperm := keys_perm h
    rw [g1] at hperm
    have := hperm.map fun v => (match v with | .int _ x => x | _ => 0 : Int)
    rw [List.map_map (l := zs)] at this
    have e2 : zs.map ((fun v => (match v with | .int _ x => x | _ => 0 : Int)) ∘ Value.int .i64) = zs := by
      conv => rhs; rw [← List.map_id zs]
      rfl
    rw [e2] at this
    exact this
  · have h1 := h.len
    have h2 := congrArg List.length g1
    simp only [List.length_map] at h2
    rw [← h2, h1]; simp
set_option maxRecDepth 100000 in
theorem worldS {F : FM} {es : List MapEntry} {es' : Array MapEntry} {zs : List ByteArray} (h : ML F es es'.toList) (hz : keysS es = some zs) :
    (∀ e ∈ es'.toList, ∃ s : ByteArray, e.key = .string s ∧ s.size ≤ 1000) ∧ (Go.strKeys (datumK 9 es')).Perm (zs.map fun z => z.data.toList) ∧ es'.size = zs.length := by
  obtain ⟨g1, g2⟩ := keysS_map hz
  have hk : ∀ e ∈ es'.toList, ∃ s : ByteArray, e.key = .string s ∧ s.size ≤ 1000 := by
    intro e he
    obtain ⟨e0, h0, hk0⟩ := h.bwd e he
    have : e0.key ∈ es.map (·.key) := List.mem_map.2 ⟨e0, h0, rfl⟩
    rw [g1] at this
    obtain ⟨z, hz', e1⟩ := List.mem_map.1 this
    exact ⟨z, by rw [← hk0, ← e1], g2 z hz'⟩
  refine ⟨hk, ?_, ?_⟩
  · have hp1 : (Go.strKeys (datumK 9 es')).Perm (es'.toList.map fun e => Go.strOf (Go.WideElems.rg Tryz.prog 9 RU e).1) := by
      simp only [datumK, Go.strKeys]
      have := (Go.WideShapes.sorted_perm (es'.toList.map (Go.WideElems.rg Tryz.prog 9 RU))).map fun p => Go.strOf p.1
      rw [List.map_map] at this
      exact this
    refine hp1.trans ?_
    have e1 : (es'.toList.map fun e => Go.strOf (Go.WideElems.rg Tryz.prog 9 RU e).1) = (es'.toList.map (·.key)).map fun v => match v with | .string s => s.data.toList | _ => [] := by
      rw [List.map_map]
      refine List.map_congr_left fun e he => ?_
      obtain ⟨s, hs, hl⟩ := hk e he
      rw [rg_lit (by rw [hs]; exact key_str hl)]
      simp [hs, Go.strOf]
    rw [e1]
    have hperm := keys_perm h
    rw [g1] at hperm
    have := hperm.map fun v => (match v with | .string s => s.data.toList | _ => [] : List UInt8)
    rw [List.map_map (l := zs)] at this
    exact this
  · have h1 := h.len
    have h2 := congrArg List.length g1
    simp only [List.length_map] at h2
    rw [← h2, h1]; simp

/-! A new slice; nil where there is nothing. -/
/-- A world that has only grown. -/
theorem Stp.below {F : FM} {H : Heap} {nx : Nat} {w w' : World} (hr : HR F H nx w) (hb : RowKit.Below w.heap.size w w') : Stp F H nx w F H nx w' :=
  ⟨Nat.le_refl _, fun _ _ => rfl, hb.os, hb.tape, hb.output, hb.size, fun k hk _ => hb.block k hk, fun b hb => .inl hb, fun i _ h => h, fun i b hg _ => ⟨hr.low hg, hg⟩,
   ⟨fun i b hi hg => let ⟨t, h1, h2⟩ := hr.blk i b hi hg; ⟨t, h1, h2.mono (fun _ _ h => h) (hb.block _ h2.lt)⟩, hr.inj, hr.fresh, hr.top, hr.gl.step (fun k hk _ => hb.block k hk) fun b hb => .inl hb⟩⟩
theorem row_end {F : FM} {H : Heap} {nx : Nat} {w w' : World} (hr : HR F H nx w) {t : TypeId} {v : Value} {n : Nat} {xs : List Value} (hrow : w'.ownsRow w.heap.size t 1 v n xs) (hn : n = xs.length) (hnil : v = .slice none 0 0 ↔ xs = []) (hfl : xs.all flat1 = true) (hb : RowKit.Below w.heap.size w w') :
    ∃ F', VR F' (newR xs H nx).1 v ∧ Stp F H nx w F' (newR xs H nx).2.1 (newR xs H nx).2.2 w' := by
  subst hn
  rcases hrow.2 with ⟨rfl, h0⟩ | ⟨g, cap, cur, rfl, hg, hc, h1, h2, h3, h4⟩
  · have : xs = [] := List.eq_nil_of_length_eq_zero (by omega)
    subst this
    exact ⟨F, .sliceN 0 0, Stp.below hr hb⟩
  · cases xs with
    | nil =>
      exfalso
      have := hnil.2 rfl
      cases this
    | cons z l =>
      obtain ⟨F', hv, hst⟩ := Stp.row hr hb hg hc h1 (by omega) (by rw [Nat.mul_one] at h4; exact h4) (by unfold Go.maxLen at h2; omega) hfl
      exact ⟨F', hv, hst⟩

/-! slices.Sorted. -/
theorem enters39 : Go.Clo.Enters Tryz.prog 38 := ⟨_, _, Tryz.func38, rfl, by kernel_rfl⟩
theorem enters157 : Go.Clo.Enters Tryz.prog 172 := ⟨_, _, Tryz.func172, rfl, by kernel_rfl⟩
/-- The box that maps.Keys leaves: the map behind it. -/
theorem box_world {F : FM} {H : Heap} {nx : Nat} {w : World} (hr : HR F H nx w) {g p sl : Nat} {m v' : Value} (hp : getH H p = some (.cells [m] sl)) (h1000 : 1000 ≤ sl) (h0 : sl % 1000 = 0) (hv : VR F (.func (.func g) ⟨[]⟩ ⟨[.pointer (some ⟨p, 0, none⟩)]⟩) v') :
    ∃ Bm m', v' = .func (.func g) #[] #[.pointer (some ⟨Bm, 0, none⟩)] ∧ Bm < w.heap.size ∧ w.cell? ⟨Bm, 0, none⟩ = some m' ∧ VR F m m' := by
  cases hv with
  | @func _ _ x' _ y' e1 e2 e3 e4 =>
    obtain rfl : x' = #[] := Array.eq_empty_of_size_eq_zero e1.symm
    obtain ⟨q, rfl⟩ : ∃ q, y' = #[q] := by
      have : y'.toList.length = 1 := by simpa using e3.symm
      match hy : y'.toList, this with
      | [q], _ => exact ⟨q, by rw [← Array.toArray_toList (xs := y'), hy]⟩
    have hq := e4 0 _ _ rfl rfl
    generalize q = q' at *
    cases hq with
    | @ptr _ _ t hF =>
      obtain ⟨c', e, fz, g1, ⟨g2, g3, _⟩, g4, g5, g6, g7⟩ := hr.hb.get hF hp
      have hb0 := ((g3 h1000).2 h0).1
      rw [hb0] at g6 g7 ⊢
      simp only [List.length_cons, List.length_nil] at g6 g7
      rw [List.drop_zero] at g7
      have hlen := g7.length
      cases hc : c'.toList with
      | nil => rw [hc] at hlen; simp at hlen
      | cons a l =>
        rw [hc] at g7
        simp only [List.take_succ_cons, List.take_zero] at g7
        cases g7 with
        | cons hv _ =>
        refine ⟨t.blk, a, by simp, (Array.getElem?_eq_some_iff.1 g1).1, ?_, hv⟩
        have : c'[0]? = some a := by rw [← Array.getElem?_toList, hc]; rfl
        simp [World.cell?, g1, this]
theorem sortedI_cs {ρ : Go.Shelf.Ren} (L : Go.Proofs.SlLaysZI.n10 Tryz.prog ρ) (h26 : ρ.t 26 = 3) (eg : ∀ args w, (callFunc (ρ.f 10) args).run Tryz.prog w = .ok (.enter (ρ.f 10) args) w) {p sl r : Nat} {es : List MapEntry} {c : Nat} {zs : List Int} {H : Heap} {nx : Nat}
    (hp : getH H p = some (.cells [.map (some r)] sl)) (h1000 : 1000 ≤ sl) (h0 : sl % 1000 = 0) (hg : getH H r = some (.map es c)) (hz : keysI es = some zs) (hl : zs.length ≤ 1000) :
    CS Tryz.prog 38 [.func (.func (ρ.f 10)) ⟨[]⟩ ⟨[.pointer (some ⟨p, 0, none⟩)]⟩] H nx (newR ((sortZ zs).map (Value.int .i64)) H nx).1 (newR ((sortZ zs).map (Value.int .i64)) H nx).2.1 (newR ((sortZ zs).map (Value.int .i64)) H nx).2.2 := by
  refine ⟨enters39, fun F args' w hr hv => ?_⟩
  cases hv with
  | cons hv hv2 =>
  cases hv2
  obtain ⟨Bm, m', rfl, hlt, hcell, hm⟩ := box_world hr hp h1000 h0 hv
  cases hm with
  | @map _ t hF =>
  obtain ⟨_, es', c', hw, _, hel, hst⟩ := hr.hb.get hF hg
  obtain ⟨k1, k2, k3⟩ := worldI hel hz
  refine (sortedI_w L h26 eg Bm t.blk es' c' w hlt hcell hw hst k1 (by omega)).mono fun e w' ⟨v, ss, he, hS, hrow, hnil, hb⟩ => ?_
  have hss := hS.trans k2
  rw [sortZ_is hss] at hrow
  have hlen : ss.length = (sortZ zs).length := by rw [(sortZ_perm zs).length_eq, hss.length_eq]
  obtain ⟨F', h1, h2⟩ := row_end (H := H) (nx := nx) (xs := (sortZ zs).map (Value.int .i64)) hr hrow (by simpa using hlen) (by
    rw [hnil, List.map_eq_nil_iff]
    constructor
    · intro h; rw [h] at hlen; exact List.eq_nil_of_length_eq_zero hlen.symm
    · intro h; rw [h] at hlen; exact List.eq_nil_of_length_eq_zero hlen) (by simp [List.all_map, flat1]) hb
  exact ⟨v, F', he, h1, h2⟩
theorem sortedI_nil_cs {ρ : Go.Shelf.Ren} (L : Go.Proofs.SlLaysZI.n10 Tryz.prog ρ) (eg : ∀ args w, (callFunc (ρ.f 10) args).run Tryz.prog w = .ok (.enter (ρ.f 10) args) w) {p sl : Nat} {H : Heap} {nx : Nat}
    (hp : getH H p = some (.cells [.map none] sl)) (h1000 : 1000 ≤ sl) (h0 : sl % 1000 = 0) :
    CS Tryz.prog 38 [.func (.func (ρ.f 10)) ⟨[]⟩ ⟨[.pointer (some ⟨p, 0, none⟩)]⟩] H nx (.slice none 0 0) H nx := by
  refine ⟨enters39, fun F args' w hr hv => ?_⟩
  cases hv with
  | cons hv hv2 =>
  cases hv2
  obtain ⟨Bm, m', rfl, hlt, hcell, hm⟩ := box_world hr hp h1000 h0 hv
  cases hm
  exact (sortedI_nil L eg Bm w hlt hcell).mono fun e w' ⟨he, hb⟩ => ⟨_, F, he, .sliceN 0 0, Stp.below hr hb⟩
theorem sortedS_cs {ρ : Go.Shelf.Ren} (L : Go.Proofs.SlLaysZ.n10 Tryz.prog ρ) (h26 : ρ.t 26 = 9) (eg : ∀ args w, (callFunc (ρ.f 10) args).run Tryz.prog w = .ok (.enter (ρ.f 10) args) w) {p sl r : Nat} {es : List MapEntry} {c : Nat} {zs : List ByteArray} {H : Heap} {nx : Nat}
    (hp : getH H p = some (.cells [.map (some r)] sl)) (h1000 : 1000 ≤ sl) (h0 : sl % 1000 = 0) (hg : getH H r = some (.map es c)) (hz : keysS es = some zs) (hl : zs.length ≤ 1000) :
    CS Tryz.prog 172 [.func (.func (ρ.f 10)) ⟨[]⟩ ⟨[.pointer (some ⟨p, 0, none⟩)]⟩] H nx (newR (strs (sortB zs)) H nx).1 (newR (strs (sortB zs)) H nx).2.1 (newR (strs (sortB zs)) H nx).2.2 := by
  refine ⟨enters157, fun F args' w hr hv => ?_⟩
  cases hv with
  | cons hv hv2 =>
  cases hv2
  obtain ⟨Bm, m', rfl, hlt, hcell, hm⟩ := box_world hr hp h1000 h0 hv
  cases hm with
  | @map _ t hF =>
  obtain ⟨_, es', c', hw, _, hel, hst⟩ := hr.hb.get hF hg
  obtain ⟨k1, k2, k3⟩ := worldS hel hz
  refine (sortedS_w L h26 eg Bm t.blk es' c' w hlt hcell hw hst k1 (by omega)).mono fun e w' ⟨v, ss, he, hS, hrow, hnil, hb⟩ => ?_
  have hss := hS.trans k2
  rw [sortB_is hss] at hrow
  have hlen : ss.length = (sortB zs).length := by rw [(sortB_perm zs).length_eq]; simpa using hss.length_eq
  obtain ⟨F', h1, h2⟩ := row_end (H := H) (nx := nx) (xs := strs (sortB zs)) hr hrow (by rw [strs_length]; exact hlen) (by
    rw [hnil]
    have e1 : strs (sortB zs) = [] ↔ sortB zs = [] := by simp [strs]
    rw [e1]
    constructor
    · intro h; rw [h] at hlen; exact List.eq_nil_of_length_eq_zero hlen.symm
    · intro h; rw [h] at hlen; exact List.eq_nil_of_length_eq_zero hlen) (strs_flat _) hb
  exact ⟨v, F', he, h1, h2⟩
/-! maps.Keys. -/
theorem keys_cs {f g T : Nat} (hE : Go.Clo.Enters Tryz.prog f) (hc : ∀ mb W, Calls Tryz.prog f #[.map mb] W fun e w' => e = .returned (.func (.func g) #[] #[.pointer (some ⟨W.heap.size, 0, none⟩)]) ∧ w' = W.alloc (.cells #[.map mb] T)) (m : Option Nat) (H : Heap) (nx : Nat) :
    CS Tryz.prog f [.map m] H nx (.func (.func g) ⟨[]⟩ ⟨[.pointer (some ⟨nx, 0, none⟩)]⟩) (hs H nx (some (.cells [.map m] (1000 * (T + 1))))) (nx + 1) := by
  refine ⟨hE, fun F args' w hr hv => ?_⟩
  cases hv with
  | cons hv hv2 =>
  cases hv2
  rename_i v1
  obtain ⟨mb, rfl⟩ : ∃ mb, v1 = Value.map mb := by
    cases hv with
    | mapN => exact ⟨none, rfl⟩
    | map h => exact ⟨_, rfl⟩
  refine (hc mb w).mono fun e w' ⟨he, hw⟩ => ?_
  subst hw
  obtain ⟨t, h1, h2, hst⟩ := Stp.new (b := .cells [.map m] (1000 * (T + 1))) (obj := .cells #[.map mb] T) hr ⟨_, _, rfl, fun _ => ⟨tag_div0 T, fun _ => ⟨rfl, rfl⟩⟩, .cons hv .nil⟩
  refine ⟨_, _, he, ?_, hst⟩
  have hp : VR (upd F nx t) (.pointer (some ⟨nx, 0, none⟩)) (.pointer (some ⟨w.heap.size, 0, none⟩)) := by
    have := VR.ptr (F := upd F nx t) (b := nx) (o := 0) (t := t) (upd_same F nx t)
    rw [h1, h2] at this
    exact this
  refine .func _ rfl (by simp) rfl fun i v v' e1 e2 => ?_
  rcases i with _ | i
  · simp at e1 e2; subst e1; subst e2; exact hp
  · simp at e1
end Go.Proofs.YtaiefmkapnekiaaGreatDoor
