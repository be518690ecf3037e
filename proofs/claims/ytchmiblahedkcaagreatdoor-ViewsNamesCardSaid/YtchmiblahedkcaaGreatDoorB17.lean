/-
  Names and names as the executor's oracles: what they answer, as functions of abstract heaps.
-/
import Derived.Test.YtchmiblahedkcaaGreatDoorB15
import Derived.Test.YtchmiblahedkcaaGreatDoorB16
set_option linter.all false
namespace Go.Proofs.YtchmiblahedkcaaGreatDoor
open Go.Clo

/-! Sorting. -/
def insB (z : ByteArray) : List ByteArray → List ByteArray
  | [] => [z]
  | x :: l => cond (Op.bytesLess x.data.toList z.data.toList) (x :: insB z l) (z :: x :: l)
def sortB : List ByteArray → List ByteArray
  | [] => []
  | z :: l => insB z (sortB l)
def leA (a b : ByteArray) : Prop := a.data.toList ≤ b.data.toList
theorem insB_perm (z : ByteArray) : ∀ l : List ByteArray, (insB z l).Perm (z :: l)
  | [] => List.Perm.refl _
  | x :: l => by
    simp only [insB]
    cases Op.bytesLess x.data.toList z.data.toList with
    | true => exact ((insB_perm z l).cons x).trans (List.Perm.swap _ _ _)
    | false => exact List.Perm.refl _
theorem sortB_perm : ∀ l : List ByteArray, (sortB l).Perm l
  | [] => List.Perm.refl _
  | z :: l => (insB_perm z _).trans ((sortB_perm l).cons z)
theorem insB_sorted (z : ByteArray) : ∀ l : List ByteArray, l.Pairwise leA → (insB z l).Pairwise leA
  | [], _ => by simp [insB]
  | x :: l, h => by
    have hx := List.pairwise_cons.1 h
    simp only [insB]
    cases hb : Op.bytesLess x.data.toList z.data.toList with
    | true =>
      simp only [cond_true]
      rw [Go.Proofs.bytesLess_eq, decide_eq_true_eq] at hb
      refine List.pairwise_cons.2 ⟨fun y hy => ?_, insB_sorted z l hx.2⟩
      rcases List.mem_cons.1 ((insB_perm z l).mem_iff.1 hy) with rfl | hy
      · exact List.le_of_lt hb
      · exact hx.1 y hy
    | false =>
      simp only [cond_false]
      rw [Go.Proofs.bytesLess_eq, decide_eq_false_iff_not] at hb
      have hzx : leA z x := List.not_lt.1 hb
      refine List.pairwise_cons.2 ⟨fun y hy => ?_, h⟩
      rcases List.mem_cons.1 hy with rfl | hy
      · exact hzx
      · exact List.le_trans hzx (hx.1 y hy)
theorem sortB_sorted : ∀ l : List ByteArray, (sortB l).Pairwise leA
  | [] => .nil
  | z :: l => insB_sorted z _ (sortB_sorted l)
theorem bytes_inj {a b : ByteArray} (h : a.data.toList = b.data.toList) : a = b := by
  cases a; cases b; simpa using h
/-- What the program's sort yields. -/
theorem sort_is {ss : List (List UInt8)} {zs : List ByteArray} (h : ss.Perm (zs.map fun z => z.data.toList)) : (ss.mergeSort fun x y => decide (x ≤ y)).map encStr = strs (sortB zs) := by
  have hp : (ss.mergeSort fun x y => decide (x ≤ y)) = (sortB zs).map fun z => z.data.toList := by
    refine List.Perm.eq_of_pairwise (le := fun a b => decide (a ≤ b) = true) (fun a b _ _ h1 h2 => ?_) (List.pairwise_mergeSort (fun a b c h1 h2 => ?_) (fun a b => ?_) ss) ?_ ?_
    · simp only [decide_eq_true_eq] at h1 h2; exact List.le_antisymm h1 h2
    · simp only [decide_eq_true_eq] at *; exact List.le_trans h1 h2
    · simp only [Bool.or_eq_true, decide_eq_true_eq]; exact List.le_total a b
    · rw [List.pairwise_map]; exact (sortB_sorted zs).imp fun h => by simpa [leA] using h
    · exact (List.mergeSort_perm _ _).trans (h.trans ((sortB_perm zs).map _).symm)
  rw [hp, List.map_map]
  simp [strs, encStr, Function.comp_def]

/-! The oracles. -/
def keyS (e : MapEntry) : Option ByteArray := match e.key with
  | .string s => cond (Nat.ble s.size 1000) (some s) none
  | _ => none
def keysS : List MapEntry → Option (List ByteArray)
  | [] => some []
  | e :: es => match keyS e, keysS es with
    | some s, some l => some (s :: l)
    | _, _ => none
theorem keysS_map : ∀ {es : List MapEntry} {zs : List ByteArray}, keysS es = some zs → es.map (·.key) = zs.map Value.string ∧ (∀ z ∈ zs, z.size ≤ 1000)
  | [], zs, h => by simp [keysS] at h; subst h; exact ⟨rfl, fun z hz => by cases hz⟩
  | e :: es, zs, h => by
    simp only [keysS] at h
    cases h1 : keyS e with
    | none => rw [h1] at h; cases h
    | some s =>
      cases h2 : keysS es with
      | none => rw [h1, h2] at h; cases h
      | some l =>
        rw [h1, h2] at h
        simp only [Option.some.injEq] at h; subst h
        obtain ⟨g1, g2⟩ := keysS_map h2
        unfold keyS at h1
        split at h1
        · rename_i s' hs
          cases hb : Nat.ble s'.size 1000 with
          | false => rw [hb] at h1; cases h1
          | true =>
            rw [hb] at h1; simp only [cond_true, Option.some.injEq] at h1; subst h1
            refine ⟨by simp [g1, hs], fun z hz => ?_⟩
            rcases List.mem_cons.1 hz with rfl | hz
            · exact Nat.le_of_ble_eq_true hb
            · exact g2 z hz
        · cases h1
/-- A new slice of strings; nil where there is none. -/
noncomputable def newS (zs : List ByteArray) (H : Heap) (nx : Nat) : Value × Heap × Nat := match zs with
  | [] => (.slice none 0 0, H, nx)
  | z :: l => (.slice (some ⟨nx, 0, none⟩) (l.length + 1) (l.length + 1), hs H nx (some (.cells (strs (z :: l)) 1)), nx + 1)
set_option maxRecDepth 100000 in
/-- The entries in the world have these keys. -/
theorem keys_world {F : FM} {es : List MapEntry} {es' : Array MapEntry} {zs : List ByteArray} (h : ML F es es'.toList) (hz : keysS es = some zs) :
    (∀ e ∈ es'.toList, ∃ s : ByteArray, e.key = .string s ∧ s.size ≤ 1000) ∧ (Go.strKeys (datum es')).Perm (zs.map fun z => z.data.toList) ∧ es'.size = zs.length := by
  obtain ⟨g1, g2⟩ := keysS_map hz
  have hk : ∀ e ∈ es'.toList, ∃ s : ByteArray, e.key = .string s ∧ s.size ≤ 1000 := by
    intro e he
    obtain ⟨e0, h0, hk0⟩ := h.bwd e he
    have : e0.key ∈ es.map (·.key) := List.mem_map.2 ⟨e0, h0, rfl⟩
    rw [g1] at this
    obtain ⟨z, hz', e1⟩ := List.mem_map.1 this
    exact ⟨z, by rw [← hk0, ← e1], g2 z hz'⟩
  refine ⟨hk, ?_, ?_⟩
  · have hp1 : (Go.strKeys (datum es')).Perm (es'.toList.map fun e => Go.strOf (Go.WideElems.rg Tryz.prog 9 RU e).1) := by
      simp only [datum, Go.strKeys]
      have := (Go.WideShapes.sorted_perm (es'.toList.map (Go.WideElems.rg Tryz.prog 9 RU))).map fun p => Go.strOf p.1
      rw [List.map_map] at this
      exact this
    refine hp1.trans ?_
    have e1 : (es'.toList.map fun e => Go.strOf (Go.WideElems.rg Tryz.prog 9 RU e).1) = (es'.toList.map (·.key)).map fun v => match v with | .string s => s.data.toList | _ => [] := by
      rw [List.map_map]
      refine List.map_congr_left fun e he => ?_
      obtain ⟨s, hs, hl⟩ := hk e he
      have hr : Go.WideElems.rd Tryz.prog 9 RU e = some (.string s.data.toList, .nil) := by unfold Go.WideElems.rd RU; rw [hs, key_lit hl]; rfl
      rw [Go.WideElems.rg_of hr]
      simp [hs, Go.strOf]
    rw [e1]
    have hperm : (es'.toList.map (·.key)).Perm (es.map (·.key)) := by
      refine (List.perm_ext_iff_of_nodup h.nd' h.nd).2 fun k => ⟨fun hk1 => ?_, fun hk1 => ?_⟩
      · obtain ⟨e, he, rfl⟩ := List.mem_map.1 hk1
        obtain ⟨e0, h0, hk0⟩ := h.bwd e he
        exact List.mem_map.2 ⟨e0, h0, hk0⟩
      · obtain ⟨e, he, rfl⟩ := List.mem_map.1 hk1
        obtain ⟨_, e', h0, hk0, _⟩ := h.fwd e he
        exact List.mem_map.2 ⟨e', h0, hk0⟩
    rw [g1] at hperm
    have := hperm.map fun v => (match v with | .string s => s.data.toList | _ => [] : List UInt8)
    rw [List.map_map (l := zs)] at this
    exact this
  · have h1 := h.len
    have h2 := congrArg List.length g1
    simp only [List.length_map] at h2
    rw [← h2, h1]; simp
theorem names_end {F : FM} {H : Heap} {nx : Nat} {w w' : World} {es' : Array MapEntry} {zs : List ByteArray} {e : Ending} (hr : HR F H nx w) (hp : (Go.strKeys (datum es')).Perm (zs.map fun z => z.data.toList)) (h : NamesW w es' e w') :
    ∃ v' F', e = .returned v' ∧ VR F' (newS (sortB zs) H nx).1 v' ∧ Stp F H nx w F' (newS (sortB zs) H nx).2.1 (newS (sortB zs) H nx).2.2 w' := by
  obtain ⟨v, ss, rfl, hS, hrow, hnil, hb⟩ := h
  have hss := hS.trans hp
  rw [sort_is hss] at hrow
  have hlen : ss.length = (sortB zs).length := by rw [(sortB_perm zs).length_eq]; simpa using hss.length_eq
  rcases hrow.2 with ⟨rfl, h0⟩ | ⟨g, cap, cur, rfl, hg, hc, h1, h2, h3, h4⟩
  · have : sortB zs = [] := List.eq_nil_of_length_eq_zero (by omega)
    rw [this]
    refine ⟨_, F, rfl, .sliceN 0 0, ⟨Nat.le_refl _, fun _ _ => rfl, hb.os, hb.tape, hb.output, hb.size, fun k hk _ => hb.block k hk, fun b hb => .inl hb, fun i _ h => h, fun i b hg _ => ⟨hr.low hg, hg⟩, ?_⟩⟩
    exact ⟨fun i b hi hg => let ⟨t, h1, h2⟩ := hr.blk i b hi hg; ⟨t, h1, h2.mono (fun _ _ h => h) (hb.block _ h2.lt)⟩, hr.inj, hr.fresh, hr.top, hr.gl.step (fun k hk _ => hb.block k hk) fun b hb => .inl hb⟩
  · cases hz : sortB zs with
    | nil =>
      exfalso
      rw [hz] at hlen
      have := hnil.2 (List.eq_nil_of_length_eq_zero hlen)
      cases this
    | cons z l =>
      rw [hz] at hlen h4
      have hl : ss.length = (strs (z :: l)).length := by rw [hlen, strs_length]
      rw [hl] at h1 h4 ⊢
      obtain ⟨F', hv, hst⟩ := Stp.row hr hb hg hc h1 (by omega) (by rw [Nat.mul_one] at h4; exact h4) (by unfold Go.maxLen at h2; omega) (strs_flat _)
      refine ⟨_, F', rfl, ?_, hst⟩
      simpa [newS, strs_length] using hv
theorem enters14 : Go.Clo.Enters Tryz.prog 14 := ⟨_, _, Tryz.func14, rfl, by kernel_rfl⟩
theorem enters46 : Go.Clo.Enters Tryz.prog 46 := ⟨_, _, Tryz.func46, rfl, by kernel_rfl⟩

theorem names14_cs (dv : Value) {r : Nat} {es : List MapEntry} {c : Nat} {zs : List ByteArray} {H : Heap} {nx : Nat} (hg : getH H r = some (.map es c)) (hz : keysS es = some zs) (hl : zs.length ≤ 1000) :
    CS Tryz.prog 14 [.agg ⟨[dv, .map (some r)]⟩] H nx (newS (sortB zs) H nx).1 (newS (sortB zs) H nx).2.1 (newS (sortB zs) H nx).2.2 := by
  refine ⟨enters14, fun F args' w hr hv => ?_⟩
  cases hv with
  | cons hv hv2 =>
  cases hv2
  cases hv with
  | @agg _ x' h1 h2 =>
  obtain ⟨d', m', rfl⟩ : ∃ d' m', x' = #[d', m'] := by
    have : x'.toList.length = 2 := by simpa using h1.symm
    match hy : x'.toList, this with
    | [p, q], _ => exact ⟨p, q, by rw [← Array.toArray_toList (xs := x'), hy]⟩
  have hm := h2 1 _ _ rfl rfl
  generalize hq : m' = q at hm
  cases hm with
  | @map _ t hF =>
  subst hq
  obtain ⟨_, es', c', hw, _, hel, hst⟩ := hr.hb.get hF hg
  obtain ⟨k1, k2, k3⟩ := keys_world hel hz
  exact (names14_w d' t.blk es' c' w hw hst k1 (by omega)).mono fun e w' h => names_end hr k2 h
theorem names46_cs {r : Nat} {es : List MapEntry} {c : Nat} {zs : List ByteArray} {H : Heap} {nx : Nat} (hg : getH H r = some (.map es c)) (hz : keysS es = some zs) (hl : zs.length ≤ 1000) :
    CS Tryz.prog 46 [.agg ⟨[.map (some r)]⟩] H nx (newS (sortB zs) H nx).1 (newS (sortB zs) H nx).2.1 (newS (sortB zs) H nx).2.2 := by
  refine ⟨enters46, fun F args' w hr hv => ?_⟩
  cases hv with
  | cons hv hv2 =>
  cases hv2
  cases hv with
  | @agg _ x' h1 h2 =>
  obtain ⟨m', rfl⟩ : ∃ m', x' = #[m'] := by
    have : x'.toList.length = 1 := by simpa using h1.symm
    match hy : x'.toList, this with
    | [p], _ => exact ⟨p, by rw [← Array.toArray_toList (xs := x'), hy]⟩
  have hm := h2 0 _ _ rfl rfl
  generalize hq : m' = q at hm
  cases hm with
  | @map _ t hF =>
  subst hq
  obtain ⟨_, es', c', hw, _, hel, hst⟩ := hr.hb.get hF hg
  obtain ⟨k1, k2, k3⟩ := keys_world hel hz
  exact (names46_w t.blk es' c' w hw hst k1 (by omega)).mono fun e w' h => names_end hr k2 h
theorem names14_nil_cs (dv : Value) (H : Heap) (nx : Nat) : CS Tryz.prog 14 [.agg ⟨[dv, .map none]⟩] H nx (.slice none 0 0) H nx := by
  refine ⟨enters14, fun F args' w hr hv => ?_⟩
  cases hv with
  | cons hv hv2 =>
  cases hv2
  cases hv with
  | @agg _ x' h1 h2 =>
  obtain ⟨d', m', rfl⟩ : ∃ d' m', x' = #[d', m'] := by
    have : x'.toList.length = 2 := by simpa using h1.symm
    match hy : x'.toList, this with
    | [p, q], _ => exact ⟨p, q, by rw [← Array.toArray_toList (xs := x'), hy]⟩
  have hm := h2 1 _ _ rfl rfl
  generalize hq : m' = q at hm
  cases hm
  subst hq
  refine (names14_nil d' w).mono fun e w' ⟨he, hb⟩ => ⟨_, F, he, .sliceN 0 0, ⟨Nat.le_refl _, fun _ _ => rfl, hb.os, hb.tape, hb.output, hb.size, fun k hk _ => hb.block k hk, fun b hb => .inl hb, fun i _ h => h, fun i b hg _ => ⟨hr.low hg, hg⟩, ?_⟩⟩
  exact ⟨fun i b hi hg => let ⟨t, h1, h2⟩ := hr.blk i b hi hg; ⟨t, h1, h2.mono (fun _ _ h => h) (hb.block _ h2.lt)⟩, hr.inj, hr.fresh, hr.top, hr.gl.step (fun k hk _ => hb.block k hk) fun b hb => .inl hb⟩
end Go.Proofs.YtchmiblahedkcaaGreatDoor
