/-
  The closed executor: a run beside another heap. The names of the run's heap are given anew; what the run adds is added there.
  The closed executor: runs one behind the other, each of which only adds to the heap; what one kernel's look at them says.
  The closed executor: ranges over maps of several entries. Each round is run behind each set of entries that may have come before it; all orders come to the same.
  The closed executor: a loop over a map of any length whose rounds end with an entry put into a new map; functions that hold such loops. Each round is run once, without the new map: what it puts there does not depend on what stands there.
  The closed executor: runs cut in pieces: heaps written down, runs that begin and end at them.
  Sorted keys, as lists; new slices.
-/
import Derived.Test.YtbmiedinclieaaaGreatDoorU3
import Derived.Maps.RangeRun
import Derived.Test.YtbmiedinclieaaaGreatDoorU4
set_option linter.all false
namespace Go.Clo

/-! Names given anew. -/
def renP (ρ : Nat → Nat) : Option Addr → Option Addr
  | some ⟨b, o, none⟩ => some ⟨ρ b, o, none⟩
  | a => a
mutual
def ren (ρ : Nat → Nat) : Value → Value
  | .bool b => .bool b
  | .int k n => .int k n
  | .float k n => .float k n
  | .complex k a b => .complex k a b
  | .string s => .string s
  | .pointer a => .pointer (renP ρ a)
  | .slice a n c => .slice (renP ρ a) n c
  | .map r => .map (r.map ρ)
  | .chan c => .chan c
  | .func fn x y => .func fn (renA ρ x) (renA ρ y)
  | .nilFunc => .nilFunc
  | .iface t v => .iface t (ren ρ v)
  | .nilIface => .nilIface
  | .agg x => .agg (renA ρ x)
  | .tuple x => .tuple (renA ρ x)
def renA (ρ : Nat → Nat) : Array Value → Array Value
  | ⟨l⟩ => ⟨renL ρ l⟩
def renL (ρ : Nat → Nat) : List Value → List Value
  | [] => []
  | v :: l => ren ρ v :: renL ρ l
end
theorem renL_map (ρ : Nat → Nat) : ∀ l : List Value, renL ρ l = l.map (ren ρ)
  | [] => by rw [renL]; rfl
  | v :: l => by rw [renL, renL_map ρ l]; rfl
theorem renA_list (ρ : Nat → Nat) (x : Array Value) : (renA ρ x).toList = x.toList.map (ren ρ) := by
  obtain ⟨l⟩ := x; rw [renA]; exact renL_map ρ l
theorem renA_size (ρ : Nat → Nat) (x : Array Value) : (renA ρ x).size = x.size := by
  have := congrArg List.length (renA_list ρ x)
  simpa using this
theorem renA_get (ρ : Nat → Nat) (x : Array Value) (i : Nat) : (renA ρ x)[i]? = (x[i]?).map (ren ρ) := by
  rw [← Array.getElem?_toList, renA_list, List.getElem?_map, Array.getElem?_toList]
theorem renL_length (ρ : Nat → Nat) (l : List Value) : (renL ρ l).length = l.length := by rw [renL_map]; simp

/-- All names of the value are below n. -/
def lowV : Nat → Nat → Value → Bool
  | 0, _, _ => false
  | k + 1, n, v => match v with
    | .pointer a => (match a with | some ⟨b, _, none⟩ => Nat.blt b n | _ => true)
    | .slice a _ _ => (match a with | some ⟨b, _, none⟩ => Nat.blt b n | _ => true)
    | .map r => (match r with | some r => Nat.blt r n | none => true)
    | .func _ x y => x.toList.all (lowV k n) && y.toList.all (lowV k n)
    | .iface _ v => lowV k n v
    | .agg x => x.toList.all (lowV k n)
    | .tuple x => x.toList.all (lowV k n)
    | .chan _ => false
    | _ => true
theorem arr_all {p : Value → Bool} {x : Array Value} (h : x.toList.all p = true) {i : Nat} {v : Value} (hv : x[i]? = some v) : p v = true :=
  List.all_eq_true.1 h v (by rw [← Array.getElem?_toList] at hv; exact List.mem_of_getElem? hv)

/-- The addresses as the run sees them. -/
def unF (n : Nat) (ρ : Nat → Nat) (F : FM) : FM := fun i => if i < n then F (ρ i) else none
theorem VR.un {F : FM} {ρ : Nat → Nat} {n : Nat} : ∀ (k : Nat) {v v' : Value}, lowV k n v = true → VR F (ren ρ v) v' → VR (unF n ρ F) v v' := by
  intro k
  induction k with
  | zero => intro v v' h; cases h
  | succ k ih =>
    have arr : ∀ {x x' : Array Value}, x.toList.all (lowV k n) = true → (renA ρ x).size = x'.size → (∀ (i : Nat) (v v' : Value), (renA ρ x)[i]? = some v → x'[i]? = some v' → VR F v v') →
        x.size = x'.size ∧ ∀ (i : Nat) (v v' : Value), x[i]? = some v → x'[i]? = some v' → VR (unF n ρ F) v v' := by
      intro x x' hx h1 h2
      refine ⟨by rw [← h1, renA_size], fun i v v' e1 e2 => ih (arr_all hx e1) (h2 i (ren ρ v) v' (by rw [renA_get, e1]; rfl) e2)⟩
    intro v v' hl h
    cases v with
    | bool b => rw [ren] at h; cases h; exact .bool b
    | int q m => rw [ren] at h; cases h; exact .int q m
    | float q m => rw [ren] at h; cases h; exact .float q m
    | complex q a b => rw [ren] at h; cases h; exact .complex q a b
    | string s => rw [ren] at h; cases h; exact .string s
    | nilFunc => rw [ren] at h; cases h; exact .nilFunc
    | nilIface => rw [ren] at h; cases h; exact .nilIface
    | chan c => simp [lowV] at hl
    | pointer a =>
      rw [ren] at h
      match a, h, hl with
      | none, h, _ => simp only [renP] at h; cases h; exact .ptrN
      | some ⟨b, o, none⟩, h, hl =>
        simp only [renP] at h
        have hb : b < n := by simpa [lowV, Nat.blt_eq] using hl
        cases h with
        | ptr hF => exact .ptr (by simp [unF, hb, hF])
      | some ⟨b, o, some s⟩, h, _ => simp only [renP] at h; cases h
    | slice a m c =>
      rw [ren] at h
      match a, h, hl with
      | none, h, _ => simp only [renP] at h; cases h; exact .sliceN m c
      | some ⟨b, o, none⟩, h, hl =>
        simp only [renP] at h
        have hb : b < n := by simpa [lowV, Nat.blt_eq] using hl
        obtain ⟨_, t, c', hF, rfl, hc⟩ := h.slice_inv
        exact .slice (by simp [unF, hb, hF]) hc
      | some ⟨b, o, some s⟩, h, _ =>
        simp only [renP] at h
        cases h with
        | sliceW s a => exact .sliceW s _
        | sliceU s a c' => exact .sliceU s _ _
    | map r =>
      rw [ren] at h
      cases r with
      | none => simp only [Option.map_none] at h; cases h; exact .mapN
      | some r =>
        have hb : r < n := by simpa [lowV, Nat.blt_eq] using hl
        simp only [Option.map_some] at h
        cases h with
        | map hF => exact .map (by simp [unF, hb, hF])
    | func fn x y =>
      rw [ren] at h
      simp only [lowV, Bool.and_eq_true] at hl
      cases h with
      | func _ h1 h2 h3 h4 =>
        obtain ⟨g1, g2⟩ := arr hl.1 h1 h2
        obtain ⟨g3, g4⟩ := arr hl.2 h3 h4
        exact .func fn g1 g2 g3 g4
    | iface t u =>
      rw [ren] at h
      simp only [lowV] at hl
      cases h with
      | iface _ h => exact .iface t (ih hl h)
    | agg x =>
      rw [ren] at h
      simp only [lowV] at hl
      cases h with
      | agg h1 h2 => obtain ⟨g1, g2⟩ := arr hl h1 h2; exact .agg g1 g2
    | tuple x =>
      rw [ren] at h
      simp only [lowV] at hl
      cases h with
      | tuple h1 h2 => obtain ⟨g1, g2⟩ := arr hl h1 h2; exact .tuple g1 g2
theorem VR.re {F G : FM} {ρ : Nat → Nat} (hG : ∀ i t, F i = some t → G (ρ i) = some t) {v v' : Value} (h : VR F v v') : VR G (ren ρ v) v' := by
  have arr : ∀ {x x' : Array Value}, x.size = x'.size → (∀ (i : Nat) (v v' : Value), x[i]? = some v → x'[i]? = some v' → VR G (ren ρ v) v') →
      (renA ρ x).size = x'.size ∧ ∀ (i : Nat) (v v' : Value), (renA ρ x)[i]? = some v → x'[i]? = some v' → VR G v v' := by
    intro x x' h1 h2
    refine ⟨by rw [renA_size, h1], fun i v v' e1 e2 => ?_⟩
    rw [renA_get] at e1
    cases hx : x[i]? with
    | none => rw [hx] at e1; cases e1
    | some u => rw [hx] at e1; cases e1; exact h2 i u v' hx e2
  induction h with
  | any v => rw [ren]; exact .any v
  | bool b => rw [ren]; exact .bool b
  | int k n => rw [ren]; exact .int k n
  | float k n => rw [ren]; exact .float k n
  | complex k n m => rw [ren]; exact .complex k n m
  | string s => rw [ren]; exact .string s
  | ptrN => rw [ren]; exact .ptrN
  | ptr h => rw [ren]; exact .ptr (hG _ _ h)
  | sliceN n c => rw [ren]; exact .sliceN n c
  | slice h hc => rw [ren]; exact .slice (hG _ _ h) hc
  | sliceW s a => rw [ren]; exact .sliceW s a
  | sliceU s a c' => rw [ren]; exact .sliceU s a c'
  | mapN => rw [ren]; exact .mapN
  | map h => rw [ren]; exact .map (hG _ _ h)
  | func fn h1 _ h3 _ i2 i4 => rw [ren]; obtain ⟨g1, g2⟩ := arr h1 i2; obtain ⟨g3, g4⟩ := arr h3 i4; exact .func fn g1 g2 g3 g4
  | nilFunc => rw [ren]; exact .nilFunc
  | iface t _ ih => rw [ren]; exact .iface t ih
  | nilIface => rw [ren]; exact .nilIface
  | agg h1 _ ih => rw [ren]; obtain ⟨g1, g2⟩ := arr h1 ih; exact .agg g1 g2
  | tuple h1 _ ih => rw [ren]; obtain ⟨g1, g2⟩ := arr h1 ih; exact .tuple g1 g2
theorem ren_congr {ρ ρ' : Nat → Nat} {n : Nat} (hρ : ∀ i, i < n → ρ i = ρ' i) : ∀ (k : Nat) {v : Value}, lowV k n v = true → ren ρ v = ren ρ' v := by
  intro k
  induction k with
  | zero => intro v h; cases h
  | succ k ih =>
    have arr : ∀ {x : Array Value}, x.toList.all (lowV k n) = true → renA ρ x = renA ρ' x := by
      intro x hx
      apply Array.toList_inj.1
      rw [renA_list, renA_list]
      exact List.map_congr_left fun v hv => ih (List.all_eq_true.1 hx v hv)
    intro v hl
    cases v with
    | pointer a =>
      rw [ren, ren]
      match a, hl with
      | none, _ => rfl
      | some ⟨b, o, none⟩, hl => simp only [renP]; rw [hρ b (by simpa [lowV, Nat.blt_eq] using hl)]
      | some ⟨b, o, some s⟩, _ => rfl
    | slice a m c =>
      rw [ren, ren]
      match a, hl with
      | none, _ => rfl
      | some ⟨b, o, none⟩, hl => simp only [renP]; rw [hρ b (by simpa [lowV, Nat.blt_eq] using hl)]
      | some ⟨b, o, some s⟩, _ => rfl
    | map r =>
      rw [ren, ren]
      cases r with
      | none => rfl
      | some r => simp only [Option.map_some]; rw [hρ r (by simpa [lowV, Nat.blt_eq] using hl)]
    | func fn x y =>
      simp only [lowV, Bool.and_eq_true] at hl
      rw [ren, ren, arr hl.1, arr hl.2]
    | iface t u => simp only [lowV] at hl; rw [ren, ren, ih hl]
    | agg x => simp only [lowV] at hl; rw [ren, ren, arr hl]
    | tuple x => simp only [lowV] at hl; rw [ren, ren, arr hl]
    | _ => rw [ren, ren]
theorem lowV_mono {n m : Nat} (h : n ≤ m) : ∀ (k : Nat) {v : Value}, lowV k n v = true → lowV k m v = true := by
  intro k
  induction k with
  | zero => intro v h; cases h
  | succ k ih =>
    have arr : ∀ {x : Array Value}, x.toList.all (lowV k n) = true → x.toList.all (lowV k m) = true := by
      intro x hx
      rw [List.all_eq_true] at hx ⊢
      exact fun v hv => ih (hx v hv)
    intro v hl
    cases v with
    | pointer a =>
      match a, hl with
      | none, _ => rfl
      | some ⟨b, o, none⟩, hl => simp only [lowV, Nat.blt_eq] at hl ⊢; omega
      | some ⟨b, o, some s⟩, _ => rfl
    | slice a q c =>
      match a, hl with
      | none, _ => rfl
      | some ⟨b, o, none⟩, hl => simp only [lowV, Nat.blt_eq] at hl ⊢; omega
      | some ⟨b, o, some s⟩, _ => rfl
    | map r =>
      cases r with
      | none => rfl
      | some r => simp only [lowV, Nat.blt_eq] at hl ⊢; omega
    | func fn x y => simp only [lowV, Bool.and_eq_true] at hl ⊢; exact ⟨arr hl.1, arr hl.2⟩
    | iface t u => simp only [lowV] at hl ⊢; exact ih hl
    | agg x => simp only [lowV] at hl ⊢; exact arr hl
    | tuple x => simp only [lowV] at hl ⊢; exact arr hl
    | chan c => simp [lowV] at hl
    | _ => rfl
theorem VL.un {F : FM} {ρ : Nat → Nat} {n k : Nat} {l l' : List Value} (hl : l.all (lowV k n) = true) (h : VL F (renL ρ l) l') : VL (unF n ρ F) l l' := by
  rw [renL_map] at h
  refine VL.of (by simpa using h.length) fun i v v' e1 e2 => VR.un k (List.all_eq_true.1 hl v (List.mem_of_getElem? e1)) (h.get i _ _ (by rw [List.getElem?_map, e1]; rfl) e2)
theorem VL.re {F G : FM} {ρ : Nat → Nat} (hG : ∀ i t, F i = Option.some t → G (ρ i) = Option.some t) {l l' : List Value} (h : VL F l l') : VL G (renL ρ l) l' := by
  rw [renL_map]
  induction h with
  | nil => exact .nil
  | cons h _ ih => exact .cons (h.re hG) ih

/-! Blocks. -/
def renE (ρ : Nat → Nat) (e : MapEntry) : MapEntry := ⟨e.key, ren ρ e.val, e.born⟩
def renB (ρ : Nat → Nat) : Blk → Blk
  | .cells c sl => .cells (renL ρ c) sl
  | .map es k => .map (es.map (renE ρ)) k
  | .rom c => .rom (renL ρ c)
  | .iter m s q => .iter (m.map ρ) s q
def lowB (n : Nat) : Blk → Bool
  | .cells c _ => c.all (lowV 16 n)
  | .map es _ => es.all fun e => lowV 16 n e.val
  | .rom _ => false
  | .iter m _ _ => match m with
    | none => true
    | some r => Nat.blt r n
theorem lowB_rom {n : Nat} {b : Blk} (h : lowB n b = true) : b.isRom = false := by cases b <;> first | rfl | cases h
theorem renB_rom (ρ : Nat → Nat) (b : Blk) : (renB ρ b).isRom = b.isRom := by cases b <;> rfl
theorem renB_congr {ρ ρ' : Nat → Nat} {n : Nat} (hρ : ∀ i, i < n → ρ i = ρ' i) {b : Blk} (h : lowB n b = true) : renB ρ b = renB ρ' b := by
  cases b with
  | cells c sl =>
    simp only [renB]; rw [renL_map, renL_map]
    congr 1
    exact List.map_congr_left fun v hv => ren_congr hρ 16 (List.all_eq_true.1 h v hv)
  | map es k =>
    simp only [renB]
    congr 1
    refine List.map_congr_left fun e he => ?_
    have := List.all_eq_true.1 h e he
    simp only [renE]; rw [ren_congr hρ 16 this]
  | rom c => cases h
  | iter m s q =>
    cases m with
    | none => rfl
    | some r =>
      have hr : r < n := by simpa [lowB, Nat.blt_eq] using h
      simp only [renB, Option.map_some]; rw [hρ r hr]
theorem lowB_mono {n m : Nat} (h : n ≤ m) {b : Blk} (hb : lowB n b = true) : lowB m b = true := by
  cases b with
  | cells c sl =>
    simp only [lowB] at hb ⊢
    rw [List.all_eq_true] at hb ⊢
    exact fun v hv => lowV_mono h 16 (hb v hv)
  | map es k =>
    simp only [lowB] at hb ⊢
    rw [List.all_eq_true] at hb ⊢
    exact fun v hv => lowV_mono h 16 (hb v hv)
  | rom c => cases hb
  | iter q s r =>
    cases q with
    | none => rfl
    | some r => simp only [lowB, Nat.blt_eq] at hb ⊢; omega
theorem ML.un {F : FM} {ρ : Nat → Nat} {n : Nat} {es es' : List MapEntry} (hl : (es.all fun e => lowV 16 n e.val) = true) (h : ML F (es.map (renE ρ)) es') : ML (unF n ρ F) es es' := by
  have hk : (es.map (renE ρ)).map (·.key) = es.map (·.key) := by rw [List.map_map]; rfl
  obtain ⟨h1, h2, h3, ⟨c, h4, h5⟩, h6, h7⟩ := h
  refine ⟨by rw [← hk]; exact h1, h2, by simpa using h3, ⟨c, fun e he => h4 (renE ρ e) (List.mem_map.2 ⟨e, he, rfl⟩), h5⟩, fun e he => ?_, fun e' he' => ?_⟩
  · obtain ⟨f1, e', hm, g1, g2, g3⟩ := h6 (renE ρ e) (List.mem_map.2 ⟨e, he, rfl⟩)
    exact ⟨f1, e', hm, g1, VR.un 16 (List.all_eq_true.1 hl e he) g2, g3⟩
  · obtain ⟨e, he, g⟩ := h7 e' he'
    obtain ⟨e1, he1, rfl⟩ := List.mem_map.1 he
    exact ⟨e1, he1, g⟩
theorem ML.re {F G : FM} {ρ : Nat → Nat} (hG : ∀ i t, F i = some t → G (ρ i) = some t) {es es' : List MapEntry} (h : ML F es es') : ML G (es.map (renE ρ)) es' := by
  have hk : (es.map (renE ρ)).map (·.key) = es.map (·.key) := by rw [List.map_map]; rfl
  obtain ⟨h1, h2, h3, ⟨c, h4, h5⟩, h6, h7⟩ := h
  refine ⟨by rw [hk]; exact h1, h2, by simpa using h3, ⟨c, fun e he => ?_, h5⟩, fun e he => ?_, fun e' he' => ?_⟩
  · obtain ⟨e1, he1, rfl⟩ := List.mem_map.1 he; exact h4 e1 he1
  · obtain ⟨e1, he1, rfl⟩ := List.mem_map.1 he
    obtain ⟨f1, e', hm, g1, g2, g3⟩ := h6 e1 he1
    exact ⟨f1, e', hm, g1, g2.re hG, g3⟩
  · obtain ⟨e, he, g⟩ := h7 e' he'
    exact ⟨renE ρ e, List.mem_map.2 ⟨e, he, rfl⟩, g⟩
theorem BR.un {F : FM} {ρ : Nat → Nat} {n : Nat} {t : Tgt} {b : Blk} {w : World} (hl : lowB n b = true) (h : BR F t (renB ρ b) w) : BR (unF n ρ F) t b w := by
  cases b with
  | cells c sl =>
    obtain ⟨c', e, fz, h1, h2, h3, h4, h5, h6⟩ := h
    rw [renL_length] at h3 h5 h6
    exact ⟨c', e, fz, h1, h2, h3, h4, h5, VL.un hl h6⟩
  | map es k =>
    obtain ⟨h0, es', c', h1, hc, h2, h3⟩ := h
    exact ⟨h0, es', c', h1, hc, ML.un hl h2, h3⟩
  | rom c => cases hl
  | iter m s q =>
    obtain ⟨h0, m', si, sn, last, h1, hsi, h2, h3⟩ := h
    refine ⟨h0, m', si, sn, last, h1, hsi, ?_, h3⟩
    cases m with
    | none => exact h2
    | some r =>
      obtain ⟨u, g1, g2⟩ := h2
      have hr : r < n := by simpa [lowB, Nat.blt_eq] using hl
      exact ⟨u, by simp [unF, hr, g1], g2⟩
theorem BR.re {F G : FM} {ρ : Nat → Nat} (hG : ∀ i t, F i = some t → G (ρ i) = some t) {t : Tgt} {b : Blk} {w : World} (h : BR F t b w) : BR G t (renB ρ b) w := by
  cases b with
  | cells c sl =>
    obtain ⟨c', e, fz, h1, h2, h3, h4, h5, h6⟩ := h
    refine ⟨c', e, fz, h1, h2, by rw [renL_length]; exact h3, h4, by rw [renL_length]; exact h5, ?_⟩
    rw [renL_length]; exact h6.re hG
  | map es k =>
    obtain ⟨h0, es', c', h1, hc, h2, h3⟩ := h
    exact ⟨h0, es', c', h1, hc, h2.re hG, h3⟩
  | rom c =>
    obtain ⟨c', e, m, h1, h2, h3, h4, h5, h6⟩ := h
    refine ⟨c', e, m, h1, h2, by rw [renL_length]; exact h3, h4, by rw [renL_length]; exact h5, ?_⟩
    rw [renL_length]; exact h6.re hG
  | iter m s q =>
    obtain ⟨h0, m', si, sn, last, h1, hsi, h2, h3⟩ := h
    refine ⟨h0, m', si, sn, last, h1, hsi, ?_, h3⟩
    cases m with
    | none => exact h2
    | some r => obtain ⟨u, g1, g2⟩ := h2; exact ⟨u, hG _ _ g1, g2⟩

/-! A heap within another. -/
structure Emb (ρ : Nat → Nat) (H0 : Heap) (n0 : Nat) (H : Heap) (nx : Nat) : Prop where
  lt : ∀ i, i < n0 → ρ i < nx
  inj : ∀ i j, i < n0 → j < n0 → ρ i = ρ j → i = j
  blk : ∀ i b, getH H0 i = some b → getH H (ρ i) = some (renB ρ b) ∧ lowB n0 b = true
  top : ∀ i, n0 ≤ i → getH H0 i = none
theorem Emb.nil (H : Heap) (nx : Nat) : Emb id .leaf 0 H nx := ⟨fun i h => by omega, fun i j h => by omega, fun i b h => by (rw [getH_leaf] at h; cases h), fun i _ => getH_leaf i⟩
theorem Emb.low {ρ : Nat → Nat} {H0 : Heap} {n0 : Nat} {H : Heap} {nx : Nat} (h : Emb ρ H0 n0 H nx) {i : Nat} {b : Blk} (hb : getH H0 i = some b) : i < n0 := by
  rcases Nat.lt_or_ge i n0 with g | g
  · exact g
  · rw [h.top i g] at hb; cases hb
theorem Emb.step {ρ : Nat → Nat} {H0 : Heap} {n0 : Nat} {H H' : Heap} {nx nx' : Nat} (h : Emb ρ H0 n0 H nx) (hn : nx ≤ nx') (hH : ∀ i b, getH H0 i = some b → getH H' (ρ i) = getH H (ρ i)) : Emb ρ H0 n0 H' nx' :=
  ⟨fun i hi => Nat.lt_of_lt_of_le (h.lt i hi) hn, h.inj, fun i b hb => ⟨(hH i b hb).trans (h.blk i b hb).1, (h.blk i b hb).2⟩, h.top⟩
/-- One block more. -/
def addρ (ρ : Nat → Nat) (n j : Nat) : Nat → Nat := fun i => if i = n then j else ρ i
theorem addρ_same (ρ : Nat → Nat) (n j : Nat) : addρ ρ n j n = j := by simp [addρ]
theorem addρ_lt (ρ : Nat → Nat) {n j i : Nat} (h : i < n) : addρ ρ n j i = ρ i := by simp [addρ]; omega
theorem Emb.add {ρ : Nat → Nat} {H0 : Heap} {n0 : Nat} {H : Heap} {nx : Nat} (h : Emb ρ H0 n0 H nx) {j : Nat} (hj : j < nx) (hne : ∀ i, i < n0 → ρ i ≠ j) {b : Blk} (hlow : lowB n0 b = true) (hb : getH H j = some (renB ρ b)) :
    Emb (addρ ρ n0 j) (hs H0 n0 (some b)) (n0 + 1) H nx := by
  have hag : ∀ i, i < n0 → ρ i = addρ ρ n0 j i := fun i hi => (addρ_lt ρ hi).symm
  refine ⟨fun i hi => ?_, fun i k hi hk e => ?_, fun i c hc => ?_, fun i hi => by rw [getH_hs, if_neg (by omega)]; exact h.top i (by omega)⟩
  · by_cases e : i = n0
    · subst e; rw [addρ_same]; exact hj
    · rw [addρ_lt ρ (by omega)]; exact h.lt i (by omega)
  · by_cases e1 : i = n0 <;> by_cases e2 : k = n0
    · rw [e1, e2]
    · subst e1; rw [addρ_same, addρ_lt ρ (by omega)] at e; exact absurd e.symm (hne k (by omega))
    · subst e2; rw [addρ_same, addρ_lt ρ (by omega)] at e; exact absurd e (hne i (by omega))
    · rw [addρ_lt ρ (by omega), addρ_lt ρ (by omega)] at e; exact h.inj i k (by omega) (by omega) e
  · rw [getH_hs] at hc
    by_cases e : i = n0
    · subst e; rw [if_pos rfl] at hc; cases hc
      rw [addρ_same, ← renB_congr hag hlow]
      exact ⟨hb, lowB_mono (by omega) hlow⟩
    · rw [if_neg e] at hc
      obtain ⟨g1, g2⟩ := h.blk i c hc
      have hi := h.low hc
      rw [addρ_lt ρ hi, ← renB_congr hag g2]
      exact ⟨g1, lowB_mono (by omega) g2⟩

/-- A heap that differs at finitely many names. -/
theorem heap_new (H : Heap) (g : Nat → Option Blk) : ∀ (n nx : Nat), ∃ H', ∀ j, getH H' j = if nx ≤ j ∧ j < nx + n then g j else getH H j
  | 0, nx => ⟨H, fun j => by rw [if_neg (by omega)]⟩
  | n + 1, nx => by
    obtain ⟨H', h⟩ := heap_new H g n nx
    refine ⟨hs H' (nx + n) (g (nx + n)), fun j => ?_⟩
    rw [getH_hs, h]
    by_cases e : j = nx + n
    · rw [if_pos e, if_pos (by omega), e]
    · rw [if_neg e]
      by_cases e2 : nx ≤ j ∧ j < nx + n
      · rw [if_pos e2, if_pos (by omega)]
      · rw [if_neg e2, if_neg (by omega)]

/-- What a run says of a heap within another: its new names follow the other heap's. -/
def newρ (ρ : Nat → Nat) (n0 nx : Nat) : Nat → Nat := fun i => if i < n0 then ρ i else nx + (i - n0)
theorem emb_cs {P : Program} {f : FuncId} {args : List Value} {H0 : Heap} {n0 : Nat} {v : Value} {H1 : Heap} {n1 : Nat} {ρ : Nat → Nat} {H : Heap} {nx : Nat} (hcs : CS P f args H0 n0 v H1 n1) (he : Emb ρ H0 n0 H nx)
    (ha : args.all (lowV 16 n0) = true) (hle : n0 ≤ n1) (hkeep : ∀ i, i < n0 → getH H1 i = getH H0 i) (hl : ∀ i b, getH H1 i = some b → lowB n1 b = true) (htop : ∀ i, n1 ≤ i → getH H1 i = none) (hv : lowV 16 n1 v = true) :
    ∃ H', CS P f (renL ρ args) H nx (ren (newρ ρ n0 nx) v) H' (nx + (n1 - n0)) ∧ (∀ j, j < nx → getH H' j = getH H j) ∧ Emb (newρ ρ n0 nx) H1 n1 H' (nx + (n1 - n0)) := by
  obtain ⟨H', hH'⟩ := heap_new H (fun j => (getH H1 (n0 + (j - nx))).map (renB (newρ ρ n0 nx))) (n1 - n0) nx
  have hag : ∀ i, i < n0 → ρ i = newρ ρ n0 nx i := fun i hi => by simp [newρ, hi]
  have hnw : ∀ i, n0 ≤ i → newρ ρ n0 nx i = nx + (i - n0) := fun i hi => by simp [newρ]; omega
  have hold : ∀ j, j < nx → getH H' j = getH H j := fun j hj => by rw [hH', if_neg (by omega)]
  have hemb : Emb (newρ ρ n0 nx) H1 n1 H' (nx + (n1 - n0)) := by
    refine ⟨fun i hi => ?_, fun i k hi hk e => ?_, fun i b hb => ⟨?_, hl i b hb⟩, htop⟩
    · by_cases h : i < n0
      · rw [← hag i h]; have := he.lt i h; omega
      · rw [hnw i (by omega)]; omega
    · by_cases h : i < n0 <;> by_cases h' : k < n0
      · rw [← hag i h, ← hag k h'] at e; exact he.inj i k h h' e
      · rw [← hag i h, hnw k (by omega)] at e; have := he.lt i h; omega
      · rw [← hag k h', hnw i (by omega)] at e; have := he.lt k h'; omega
      · rw [hnw i (by omega), hnw k (by omega)] at e; omega
    · have hi : i < n1 := by
        rcases Nat.lt_or_ge i n1 with g | g
        · exact g
        · rw [htop i g] at hb; cases hb
      by_cases h : i < n0
      · rw [← hag i h, hold _ (he.lt i h)]
        rw [hkeep i h] at hb
        obtain ⟨g1, g2⟩ := he.blk i b hb
        rw [g1, renB_congr hag g2]
      · rw [hnw i (by omega), hH', if_pos (by omega)]
        have : n0 + (nx + (i - n0) - nx) = i := by omega
        rw [this, hb]; rfl
  refine ⟨H', ⟨hcs.1, fun F args' w hr hva => ?_⟩, hold, hemb⟩
  -- the heap as the run sees it
  have hr0 : HR (unF n0 ρ F) H0 n0 w := by
    refine ⟨fun i b hi hb => ?_, fun i j bi bj ti tj hi hj gi gj fi fj e => ?_, fun i hi => by simp [unF]; omega, he.top, ⟨hr.gl.1, fun x hx ⟨i, k, t, hi, hg, hrk, hF, e⟩ => ?_⟩⟩
    · obtain ⟨g1, g2⟩ := he.blk i b hb
      obtain ⟨t, hF, hbr⟩ := hr.blk (ρ i) _ (he.lt i hi) g1
      exact ⟨t, by simp [unF, hi, hF], hbr.un g2⟩
    · obtain ⟨g1, g2⟩ := he.blk i bi gi
      obtain ⟨g3, g4⟩ := he.blk j bj gj
      simp only [unF, hi, hj, if_true] at fi fj
      rcases hr.inj (ρ i) (ρ j) _ _ ti tj (he.lt i hi) (he.lt j hj) g1 g3 fi fj e with h | h
      · exact .inl (he.inj i j hi hj h)
      · rw [renB_rom, renB_rom] at h; exact .inr h
    · obtain ⟨g1, g2⟩ := he.blk i k hg
      simp only [unF, hi, if_true] at hF
      exact hr.gl.2 x hx ⟨ρ i, _, t, he.lt i hi, g1, by rw [renB_rom]; exact hrk, hF, e⟩
  refine (hcs.2 _ args' w hr0 (VL.un ha hva)).mono fun e w' ⟨v', F1, h1, hvr, hst⟩ => ?_
  -- the addresses behind
  let F' : FM := fun j => if j < nx then F j else if j < nx + (n1 - n0) then F1 (n0 + (j - nx)) else none
  have hF1 : ∀ i t, F1 i = some t → F' (newρ ρ n0 nx i) = some t := by
    intro i t hi
    have hin : i < n1 := by
      rcases Nat.lt_or_ge i n1 with g | g
      · exact g
      · rw [hst.hr.fresh i g] at hi; cases hi
    by_cases h : i < n0
    · have := hst.ext i h
      rw [hi] at this
      simp only [unF, h, if_true] at this
      rw [← hag i h]
      show (if ρ i < nx then F (ρ i) else _) = some t
      rw [if_pos (he.lt i h), ← this]
    · rw [hnw i (by omega)]
      show (if nx + (i - n0) < nx then _ else if nx + (i - n0) < nx + (n1 - n0) then F1 (n0 + (nx + (i - n0) - nx)) else none) = some t
      rw [if_neg (by omega), if_pos (by omega)]
      have : n0 + (nx + (i - n0) - nx) = i := by omega
      rw [this, hi]
  have hFo : ∀ j, j < nx → F' j = F j := fun j hj => by show (if j < nx then F j else _) = _; rw [if_pos hj]
  have hFle : F.le F' := fun j t hj => by
    have : j < nx := hr.hb.lt hj
    rw [hFo j this]; exact hj
  have hFn : ∀ j, nx ≤ j → j < nx + (n1 - n0) → F' j = F1 (n0 + (j - nx)) := fun j h h' => by
    show (if j < nx then _ else if j < nx + (n1 - n0) then F1 (n0 + (j - nx)) else none) = _
    rw [if_neg (by omega), if_pos h']
  have own0 : ∀ b, Own (unF n0 ρ F) H0 n0 b → Own F H nx b := by
    rintro b ⟨i, k, t, hi, hg, hrk, hF, e⟩
    simp only [unF, hi, if_true] at hF
    exact ⟨ρ i, _, t, he.lt i hi, (he.blk i k hg).1, by rw [renB_rom]; exact hrk, hF, e⟩
  -- each name of the heap behind: an old one, or one of the run's
  have look : ∀ j b, getH H' j = some b → (j < nx ∧ getH H j = some b) ∨ ∃ i b0, n0 ≤ i ∧ i < n1 ∧ j = nx + (i - n0) ∧ getH H1 i = some b0 ∧ b = renB (newρ ρ n0 nx) b0 := by
    intro j b hb
    rw [hH'] at hb
    by_cases h : nx ≤ j ∧ j < nx + (n1 - n0)
    · rw [if_pos h] at hb
      cases hq : getH H1 (n0 + (j - nx)) with
      | none => rw [hq] at hb; cases hb
      | some b0 => rw [hq] at hb; cases hb; exact .inr ⟨n0 + (j - nx), b0, by omega, by omega, by omega, hq, rfl⟩
    · rw [if_neg h] at hb
      exact .inl ⟨hr.low hb, hb⟩
  have old : ∀ j b t, j < nx → getH H j = some b → F j = some t → BR F t b w → BR F' t b w' := by
    intro j b t hj hb hF hbr
    by_cases hown : Own (unF n0 ρ F) H0 n0 t.blk
    · obtain ⟨i, k, u, hi, hg, hrk, hFu, e⟩ := hown
      simp only [unF, hi, if_true] at hFu
      obtain ⟨g1, g2⟩ := he.blk i k hg
      rcases hr.inj (ρ i) j _ _ u t (he.lt i hi) hj g1 hb hFu hF e with h | h
      · subst h
        rw [g1] at hb; cases hb
        obtain ⟨t1, ht1, hb1⟩ := hst.hr.blk i k (by omega) (by rw [hkeep i hi]; exact hg)
        have hF1i := hF1 i t1 ht1
        rw [← hag i hi, hFo _ hj, hF] at hF1i
        cases hF1i
        have := hb1.re hF1
        rw [← renB_congr hag g2] at this
        exact this
      · rw [renB_rom, hrk] at h; cases h.1
    · exact hbr.mono hFle (hst.frame _ hbr.lt hown)
  have newB : ∀ i b0, n0 ≤ i → i < n1 → getH H1 i = some b0 → ∃ t, F1 i = some t ∧ F' (nx + (i - n0)) = some t ∧ BR F' t (renB (newρ ρ n0 nx) b0) w' ∧ b0.isRom = false := by
    intro i b0 h0 hi hb
    obtain ⟨t, ht, hbr⟩ := hst.hr.blk i b0 hi hb
    refine ⟨t, ht, ?_, hbr.re hF1, lowB_rom (hl i b0 hb)⟩
    have := hF1 i t ht
    rwa [hnw i h0] at this
  have fresh1 : ∀ i t, n0 ≤ i → i < n1 → F1 i = some t → (∃ b0, getH H1 i = some b0) → w.heap.size ≤ t.blk ∨ Own F H nx t.blk := by
    rintro i t h0 hi hF ⟨b0, hb⟩
    rcases hst.own t.blk ⟨i, b0, t, hi, hb, lowB_rom (hl i b0 hb), hF, rfl⟩ with h | h
    · exact .inr (own0 _ h)
    · exact .inl h
  refine ⟨v', F', h1, hvr.re hF1, ⟨by omega, hFo, hst.os, hst.tape, hst.output, hst.size, fun b hb hno => hst.frame b hb fun h => hno (own0 b h), ?_, fun j hj hn => by rw [hold j hj]; exact hn, ?_, ?_⟩⟩
  · rintro b ⟨j, k, t, hj, hg, hrk, hF, rfl⟩
    rcases look j k hg with ⟨hjx, hgj⟩ | ⟨i, b0, hi0, hi1, rfl, hb0, rfl⟩
    · rw [hFo j hjx] at hF; exact .inl ⟨j, k, t, hjx, hgj, hrk, hF, rfl⟩
    · obtain ⟨t1, ht1, hF', _, _⟩ := newB i b0 hi0 hi1 hb0
      rw [hF'] at hF; cases hF
      exact (fresh1 i t hi0 hi1 ht1 ⟨b0, hb0⟩).symm
  · intro j b hg hrb
    rcases look j b hg with ⟨hjx, hgj⟩ | ⟨i, b0, hi0, hi1, rfl, hb0, rfl⟩
    · exact ⟨hjx, hgj⟩
    · rw [renB_rom, lowB_rom (hl i b0 hb0)] at hrb; cases hrb
  · refine ⟨fun j b hj hg => ?_, fun j k bj bk tj tk hj hk gj gk fj fk e => ?_, fun j hj => ?_, fun j hj => ?_, ?_⟩
    · rcases look j b hg with ⟨hjx, hgj⟩ | ⟨i, b0, hi0, hi1, rfl, hb0, rfl⟩
      · obtain ⟨t, hF, hbr⟩ := hr.blk j b hjx hgj
        exact ⟨t, by rw [hFo j hjx]; exact hF, old j b t hjx hgj hF hbr⟩
      · obtain ⟨t, _, hF', hbr, _⟩ := newB i b0 hi0 hi1 hb0
        exact ⟨t, hF', hbr⟩
    · -- two names for one block
      have mix : ∀ i b0 q bq tq, n0 ≤ i → i < n1 → getH H1 i = some b0 → F' (nx + (i - n0)) = some tj → q < nx → getH H q = some bq → F q = some tq → tj.blk = tq.blk → False := by
        intro i b0 q bq tq hi0 hi1 hb0 hF' hq hgq hFq e
        obtain ⟨t1, ht1, hF2, _, hr0'⟩ := newB i b0 hi0 hi1 hb0
        rw [hF2] at hF'; cases hF'
        obtain ⟨tq', hq', hbq⟩ := hr.blk q bq hq hgq
        rw [hFq] at hq'; cases hq'
        have hlt := hbq.lt
        rcases hst.own tj.blk ⟨i, b0, tj, hi1, hb0, hr0', ht1, rfl⟩ with h | h
        · obtain ⟨i', k', u, hi', hg', hrk', hFu, eu⟩ := h
          simp only [unF, hi', if_true] at hFu
          obtain ⟨g1, g2⟩ := he.blk i' k' hg'
          rcases hr.inj (ρ i') q _ _ u tq (he.lt i' hi') hq g1 hgq hFu hFq (by omega) with h | h
          · -- then the run has two names for it
            have hk1 : getH H1 i' = some k' := by rw [hkeep i' hi']; exact hg'
            obtain ⟨u1, hu1, _⟩ := hst.hr.blk i' k' (by omega) hk1
            have hue := hst.ext i' hi'
            simp only [unF, hi', if_true] at hue
            rw [hue, hFu] at hu1; cases hu1
            rcases hst.hr.inj i i' b0 k' tj u hi1 (by omega) hb0 hk1 ht1 (by rw [hue, hFu]) eu.symm with h | h
            · omega
            · rw [hr0'] at h; cases h.1
          · rw [renB_rom, hrk'] at h; cases h.1
        · omega
      rcases look j bj gj with ⟨hjx, hgj⟩ | ⟨i, b0, hi0, hi1, rfl, hb0, rfl⟩ <;> rcases look k bk gk with ⟨hkx, hgk⟩ | ⟨i', b0', hi0', hi1', rfl, hb0', rfl⟩
      · rw [hFo j hjx] at fj; rw [hFo k hkx] at fk
        exact hr.inj j k bj bk tj tk hjx hkx hgj hgk fj fk e
      · exfalso
        rw [hFo j hjx] at fj
        have mix' : ∀ i b0 q bq tq, n0 ≤ i → i < n1 → getH H1 i = some b0 → F' (nx + (i - n0)) = some tk → q < nx → getH H q = some bq → F q = some tq → tk.blk = tq.blk → False := by
          intro i b0 q bq tq hi0 hi1 hb0 hF' hq hgq hFq e
          obtain ⟨t1, ht1, hF2, _, hr0'⟩ := newB i b0 hi0 hi1 hb0
          rw [hF2] at hF'; cases hF'
          obtain ⟨tq', hq', hbq⟩ := hr.blk q bq hq hgq
          rw [hFq] at hq'; cases hq'
          have hlt := hbq.lt
          rcases hst.own tk.blk ⟨i, b0, tk, hi1, hb0, hr0', ht1, rfl⟩ with h | h
          · obtain ⟨i', k', u, hi', hg', hrk', hFu, eu⟩ := h
            simp only [unF, hi', if_true] at hFu
            obtain ⟨g1, g2⟩ := he.blk i' k' hg'
            rcases hr.inj (ρ i') q _ _ u tq (he.lt i' hi') hq g1 hgq hFu hFq (by omega) with h | h
            · have hk1 : getH H1 i' = some k' := by rw [hkeep i' hi']; exact hg'
              obtain ⟨u1, hu1, _⟩ := hst.hr.blk i' k' (by omega) hk1
              have hue := hst.ext i' hi'
              simp only [unF, hi', if_true] at hue
              rw [hue, hFu] at hu1; cases hu1
              rcases hst.hr.inj i i' b0 k' tk u hi1 (by omega) hb0 hk1 ht1 (by rw [hue, hFu]) eu.symm with h | h
              · omega
              · rw [hr0'] at h; cases h.1
            · rw [renB_rom, hrk'] at h; cases h.1
          · omega
        exact mix' i' b0' j bj tj hi0' hi1' hb0' fk hjx hgj fj e.symm
      · exfalso
        rw [hFo k hkx] at fk
        exact mix i b0 k bk tk hi0 hi1 hb0 fj hkx hgk fk e
      · obtain ⟨t1, ht1, hF2, _, hra⟩ := newB i b0 hi0 hi1 hb0
        rw [hF2] at fj; cases fj
        obtain ⟨t2, ht2, hF3, _, hrb⟩ := newB i' b0' hi0' hi1' hb0'
        rw [hF3] at fk; cases fk
        rcases hst.hr.inj i i' b0 b0' tj tk hi1 hi1' hb0 hb0' ht1 ht2 e with h | h
        · exact .inl (by rw [h])
        · rw [hra] at h; cases h.1
    · show (if j < nx then _ else if j < nx + (n1 - n0) then _ else none) = none
      rw [if_neg (by omega), if_neg (by omega)]
    · rw [hH', if_neg (by omega)]; exact hr.top j (by omega)
    · refine hr.gl.step (fun b hb hno => hst.frame b hb fun h => hno (own0 b h)) ?_
      rintro b ⟨j, k, t, hj, hg, hrk, hF, rfl⟩
      rcases look j k hg with ⟨hjx, hgj⟩ | ⟨i, b0, hi0, hi1, rfl, hb0, rfl⟩
      · rw [hFo j hjx] at hF; exact .inl ⟨j, k, t, hjx, hgj, hrk, hF, rfl⟩
      · obtain ⟨t1, ht1, hF', _, _⟩ := newB i b0 hi0 hi1 hb0
        rw [hF'] at hF; cases hF
        exact (fresh1 i t hi0 hi1 ht1 ⟨b0, hb0⟩).symm
end Go.Clo

namespace Go.Clo

/-- The heap made anew, up to a name. -/
noncomputable def rebF {β : Type} (H : Heap) (k : Heap → β) (n : Nat) : Nat → Heap → β :=
  @Nat.rec (fun _ => Nat → Heap → β) (fun _ acc => k acc) (fun _ ih i acc => @Option.rec Blk (fun _ => β) (forceN (i + 1) fun i => ih i acc) (fun b => hsK acc i (some b) fun acc => forceN (i + 1) fun i => ih i acc) (getH H i)) n
theorem rebF_eq {β : Type} (H : Heap) : ∀ (n i : Nat) (acc : Heap), (∀ j, i ≤ j → getH acc j = none) → ∃ A, (∀ k : Heap → β, rebF H k n i acc = k A) ∧ ∀ j, getH A j = if i ≤ j ∧ j < i + n then getH H j else getH acc j
  | 0, i, acc, h => ⟨acc, fun k => rfl, fun j => by rw [if_neg (by omega)]⟩
  | n + 1, i, acc, h => by
    have e : ∀ k : Heap → β, rebF H k (n + 1) i acc = @Option.rec Blk (fun _ => β) (forceN (i + 1) fun i => rebF H k n i acc) (fun b => hsK acc i (some b) fun acc => forceN (i + 1) fun i => rebF H k n i acc) (getH H i) := fun k => rfl
    cases hg : getH H i with
    | none =>
      obtain ⟨A, h1, h2⟩ := rebF_eq (β := β) H n (i + 1) acc (fun j hj => h j (by omega))
      refine ⟨A, fun k => by rw [e, hg]; dsimp only; rw [forceN_eq, h1], fun j => ?_⟩
      rw [h2]
      by_cases hj : j = i
      · subst hj; rw [if_neg (by omega), if_pos (by omega), hg]; exact h j (Nat.le_refl _)
      · by_cases hj2 : i + 1 ≤ j ∧ j < i + 1 + n
        · rw [if_pos hj2, if_pos (by omega)]
        · rw [if_neg hj2, if_neg (by omega)]
    | some b =>
      obtain ⟨A, h1, h2⟩ := rebF_eq (β := β) H n (i + 1) (hs acc i (some b)) (fun j hj => by rw [getH_hs, if_neg (by omega)]; exact h j (by omega))
      refine ⟨A, fun k => by rw [e, hg]; dsimp only; rw [hsK_eq, forceN_eq, h1], fun j => ?_⟩
      rw [h2, getH_hs]
      by_cases hj : j = i
      · subst hj; rw [if_neg (by omega), if_pos rfl, if_pos (by omega), hg]
      · rw [if_neg hj]
        by_cases hj2 : i + 1 ≤ j ∧ j < i + 1 + n
        · rw [if_pos hj2, if_pos (by omega)]
        · rw [if_neg hj2, if_neg (by omega)]

/-- All names in the heap are below n. -/
noncomputable def lowH (H : Heap) (n m : Nat) : Nat → Bool :=
  @Nat.rec (fun _ => Nat → Bool) (fun _ => true) (fun _ ih i => @Option.rec Blk (fun _ => Bool) (forceN (i + 1) ih) (fun b => cond (lowB n b) (forceN (i + 1) ih) false) (getH H i)) m
theorem lowH_ok {H : Heap} {n : Nat} : ∀ {m i : Nat}, lowH H n m i = true → ∀ j b, i ≤ j → j < i + m → getH H j = some b → lowB n b = true
  | 0, i, _, j, b, h1, h2, _ => by omega
  | m + 1, i, h, j, b, h1, h2, hb => by
    have e : lowH H n (m + 1) i = @Option.rec Blk (fun _ => Bool) (forceN (i + 1) (lowH H n m)) (fun b => cond (lowB n b) (forceN (i + 1) (lowH H n m)) false) (getH H i) := rfl
    rw [e] at h
    cases hg : getH H i with
    | none =>
      rw [hg] at h; dsimp only at h; rw [forceN_eq] at h
      by_cases hj : j = i
      · subst hj; rw [hg] at hb; cases hb
      · exact lowH_ok h j b (by omega) (by omega) hb
    | some b0 =>
      rw [hg] at h; dsimp only at h
      cases hl : lowB n b0 with
      | false => rw [hl] at h; cases h
      | true =>
        rw [hl] at h; dsimp only [cond_true] at h; rw [forceN_eq] at h
        by_cases hj : j = i
        · subst hj; rw [hg] at hb; cases hb; exact hl
        · exact lowH_ok h j b (by omega) (by omega) hb
def beqE : List MapEntry → List MapEntry → Bool
  | [], [] => true
  | a :: x, b :: y => veq 65536 a.key b.key && veq 65536 a.val b.val && Nat.beq a.born b.born && beqE x y
  | _, _ => false
theorem beqE_eq : ∀ {x y : List MapEntry}, beqE x y = true → x = y
  | [], [], _ => rfl
  | [], _ :: _, h => by cases h
  | _ :: _, [], h => by cases h
  | a :: x, b :: y, h => by
    simp only [beqE, Bool.and_eq_true] at h
    obtain ⟨⟨⟨h1, h2⟩, h3⟩, h4⟩ := h
    have h1 := veq_eq h1
    have h2 := veq_eq h2
    have h3 := Nat.eq_of_beq_eq_true h3
    cases a; cases b
    simp only at h1 h2 h3
    rw [beqE_eq h4, h1, h2, h3]
def beqO : Option Nat → Option Nat → Bool
  | none, none => true
  | some a, some b => Nat.beq a b
  | _, _ => false
theorem beqO_eq {x y : Option Nat} (h : beqO x y = true) : x = y := by
  unfold beqO at h
  split at h
  · rfl
  · rw [Nat.eq_of_beq_eq_true h]
  · cases h
def beqB : Blk → Blk → Bool
  | .cells c s, .cells c' s' => veqs 65536 c c' && Nat.beq s s'
  | .map e k, .map e' k' => beqE e e' && Nat.beq k k'
  | .iter m s n, .iter m' s' n' => beqO m m' && (Nat.beq s s' && beqO n n')
  | _, _ => false
theorem beqB_eq {x y : Blk} (h : beqB x y = true) : x = y := by
  unfold beqB at h
  split at h
  · rw [Bool.and_eq_true] at h
    rw [(eqFn (a := undef) (b := undef) 65536).2 _ _ h.1, Nat.eq_of_beq_eq_true h.2]
  · rw [Bool.and_eq_true] at h
    rw [beqE_eq h.1, Nat.eq_of_beq_eq_true h.2]
  · simp only [Bool.and_eq_true] at h
    rw [beqO_eq h.1, Nat.eq_of_beq_eq_true h.2.1, beqO_eq h.2.2]
  · cases h
noncomputable def sameH (H H1 : Heap) (m : Nat) : Nat → Bool :=
  @Nat.rec (fun _ => Nat → Bool) (fun _ => true) (fun _ ih i => @Option.rec Blk (fun _ => Bool) (@Option.rec Blk (fun _ => Bool) (forceN (i + 1) ih) (fun _ => false) (getH H1 i)) (fun b => @Option.rec Blk (fun _ => Bool) false (fun b1 => cond (beqB b b1) (forceN (i + 1) ih) false) (getH H1 i)) (getH H i)) m
theorem sameH_ok {H H1 : Heap} : ∀ {m i : Nat}, sameH H H1 m i = true → ∀ j, i ≤ j → j < i + m → getH H1 j = getH H j
  | 0, i, _, j, h1, h2 => by omega
  | m + 1, i, h, j, h1, h2 => by
    have e : sameH H H1 (m + 1) i = @Option.rec Blk (fun _ => Bool) (@Option.rec Blk (fun _ => Bool) (forceN (i + 1) (sameH H H1 m)) (fun _ => false) (getH H1 i)) (fun b => @Option.rec Blk (fun _ => Bool) false (fun b1 => cond (beqB b b1) (forceN (i + 1) (sameH H H1 m)) false) (getH H1 i)) (getH H i) := rfl
    rw [e] at h
    have key : getH H1 i = getH H i ∧ sameH H H1 m (i + 1) = true := by
      cases hg : getH H i with
      | none =>
        rw [hg] at h; dsimp only at h
        cases hg1 : getH H1 i with
        | none => rw [hg1] at h; dsimp only at h; rw [forceN_eq] at h; exact ⟨rfl, h⟩
        | some b1 => rw [hg1] at h; cases h
      | some b =>
        rw [hg] at h; dsimp only at h
        cases hg1 : getH H1 i with
        | none => rw [hg1] at h; cases h
        | some b1 =>
          rw [hg1] at h; dsimp only at h
          cases hb : beqB b b1 with
          | false => rw [hb] at h; cases h
          | true => rw [hb] at h; dsimp only [cond_true] at h; rw [forceN_eq] at h; exact ⟨by rw [beqB_eq hb], h⟩
    by_cases hj : j = i
    · subst hj; exact key.1
    · exact sameH_ok key.2 j (by omega) (by omega)

/-- A run only adds to the heap. -/
structure Adds (H : Heap) (n : Nat) (v : Value) (H1 : Heap) (n1 : Nat) : Prop where
  le : n ≤ n1
  keep : ∀ i, i < n → getH H1 i = getH H i
  low : ∀ i b, getH H1 i = some b → lowB n1 b = true
  top : ∀ i, n1 ≤ i → getH H1 i = none
  val : lowV 16 n1 v = true
theorem CS.low {P : Program} {f : FuncId} {args : List Value} {H : Heap} {nx : Nat} {v : Value} {H' H2 : Heap} {nx' : Nat} (h : CS P f args H nx v H' nx') (h1 : ∀ i, i < nx' → getH H2 i = getH H' i) (h2 : ∀ i, nx' ≤ i → getH H2 i = none) : CS P f args H nx v H2 nx' := by
  refine ⟨h.1, fun F args' w hr hv => (h.2 F args' w hr hv).mono fun e w' ⟨v', F', he, hvr, hst⟩ => ⟨v', F', he, hvr, ?_⟩⟩
  have e : ∀ i, getH H2 i = getH H' i := fun i => by
    rcases Nat.lt_or_ge i nx' with g | g
    · exact h1 i g
    · rw [h2 i g, hst.hr.top i g]
  exact ⟨hst.le, hst.ext, hst.os, hst.tape, hst.output, hst.size, hst.frame, fun b ⟨i, k, t, hi, hg, hrk, hF, eb⟩ => hst.own b ⟨i, k, t, hi, by rw [← e]; exact hg, hrk, hF, eb⟩, fun i hi hn => by rw [e]; exact hst.keep i hi hn, fun i b hg hrb => hst.rom i b (by rw [← e]; exact hg) hrb, hst.hr.sub (fun i b hg => by rw [← e]; exact hg)⟩
/-- A run, and the looks at it. -/
noncomputable def stepC (P : Program) (orc : Orc) (dok : FuncId → Nat → Bool) (f : FuncId) (args : List Value) (H : Heap) (n : Nat) (k : Value → Heap → Nat → Bool) : Bool :=
  callD P orc dok 200 f args H n false fun v H1 n1 => rebF H1 (fun H1 => cond (Nat.ble n n1 && lowV 16 n1 v && lowH H1 n1 n1 0 && sameH H H1 n 0) (k v H1 n1) false) n1 0 .leaf
theorem stepC_inv {P : Program} (hm : P.follows .mixedOrders = true) (hNG : NamesOK P) {orc : Orc} (ho : OrcOK P orc) {dok : FuncId → Nat → Bool} (hdok : DfrOK P dok) {f : FuncId} {args : List Value} {H : Heap} {n : Nat} {k : Value → Heap → Nat → Bool}
    (h : stepC P orc dok f args H n k = true) : ∃ v H1 n1, CS P f args H n v H1 n1 ∧ Adds H n v H1 n1 ∧ k v H1 n1 = true := by
  unfold stepC at h
  rcases callD_sound (β := Bool) hm hNG ho hdok 200 f args H n false (fun v H1 n1 => rebF H1 (fun H1 => cond (Nat.ble n n1 && lowV 16 n1 v && lowH H1 n1 n1 0 && sameH H H1 n 0) (k v H1 n1) false) n1 0 .leaf) with e | ⟨v, H1, n1, e, hcs⟩
  · rw [e] at h; cases h
  · rw [e] at h
    obtain ⟨A, hA1, hA2⟩ := rebF_eq (β := Bool) H1 n1 0 .leaf (fun j _ => getH_leaf j)
    rw [hA1] at h
    cases hc : (Nat.ble n n1 && lowV 16 n1 v && lowH A n1 n1 0 && sameH H A n 0) with
    | false => rw [hc] at h; cases h
    | true =>
      rw [hc] at h
      simp only [Bool.and_eq_true] at hc
      obtain ⟨⟨⟨c1, c2⟩, c3⟩, c4⟩ := hc
      have hle := Nat.le_of_ble_eq_true c1
      have hlow : ∀ i, n1 ≤ i → getH A i = none := fun i hi => by rw [hA2, if_neg (by omega)]; exact getH_leaf i
      have hget : ∀ i, i < n1 → getH A i = getH H1 i := fun i hi => by rw [hA2, if_pos (by omega)]
      refine ⟨v, A, n1, hcs.low hget hlow, ⟨hle, fun i hi => sameH_ok c4 i (by omega) (by omega), fun i b hb => ?_, hlow, c2⟩, h⟩
      have hi : i < n1 := by
        rcases Nat.lt_or_ge i n1 with g | g
        · exact g
        · rw [hlow i g] at hb; cases hb
      exact lowH_ok c3 i b (by omega) (by omega) hb
/-- The same beside another heap. -/
theorem Adds.emb {P : Program} {f : FuncId} {args : List Value} {H0 : Heap} {n0 : Nat} {v : Value} {H1 : Heap} {n1 : Nat} {ρ : Nat → Nat} {H : Heap} {nx : Nat} (hcs : CS P f args H0 n0 v H1 n1) (ha : Adds H0 n0 v H1 n1) (he : Emb ρ H0 n0 H nx)
    (hl : args.all (lowV 16 n0) = true) : ∃ H' nx', CS P f (renL ρ args) H nx (ren (newρ ρ n0 nx) v) H' nx' ∧ nx ≤ nx' ∧ (∀ j, j < nx → getH H' j = getH H j) ∧ Emb (newρ ρ n0 nx) H1 n1 H' nx' := by
  obtain ⟨H', h1, h2, h3⟩ := emb_cs hcs he hl ha.le ha.keep ha.low ha.top ha.val
  exact ⟨H', _, h1, by omega, h2, h3⟩
end Go.Clo

namespace Go.Clo
open Go.ChangeMaps (setBlock)

/-! Blocks made weaker, names given up. -/
mutual
theorem ren_id : ∀ v : Value, ren id v = v
  | .bool b => by rw [ren]
  | .int k n => by rw [ren]
  | .float k n => by rw [ren]
  | .complex k a b => by rw [ren]
  | .string s => by rw [ren]
  | .pointer none => by rw [ren]; rfl
  | .pointer (some ⟨b, o, none⟩) => by rw [ren]; rfl
  | .pointer (some ⟨b, o, some s⟩) => by rw [ren]; rfl
  | .slice none n c => by rw [ren]; rfl
  | .slice (some ⟨b, o, none⟩) n c => by rw [ren]; rfl
  | .slice (some ⟨b, o, some s⟩) n c => by rw [ren]; rfl
  | .map none => by rw [ren]; rfl
  | .map (some r) => by rw [ren]; rfl
  | .chan c => by rw [ren]
  | .func fn x y => by rw [ren, renA_id x, renA_id y]
  | .nilFunc => by rw [ren]
  | .iface t v => by rw [ren, ren_id v]
  | .nilIface => by rw [ren]
  | .agg x => by rw [ren, renA_id x]
  | .tuple x => by rw [ren, renA_id x]
theorem renA_id : ∀ x : Array Value, renA id x = x
  | ⟨l⟩ => by rw [renA, renL_id l]
theorem renL_id : ∀ l : List Value, renL id l = l
  | [] => by rw [renL]
  | v :: l => by rw [renL, ren_id v, renL_id l]
end
theorem renB_id (b : Blk) : renB id b = b := by
  cases b with
  | cells c s => simp [renB, renL_id]
  | map es k =>
    have : es.map (renE id) = es := by
      conv => rhs; rw [← List.map_id es]
      exact List.map_congr_left fun e _ => by simp [renE, ren_id]
    simp [renB, this]
  | rom c => simp [renB, renL_id]
  | iter m s q => simp [renB]
theorem VR.low {F : FM} {k n : Nat} {v v' : Value} (hl : lowV k n v = true) (h : VR F v v') : VR (unF n id F) v v' := VR.un k hl (by rw [ren_id]; exact h)
theorem BR.low {F : FM} {n : Nat} {t : Tgt} {b : Blk} {w : World} (hl : lowB n b = true) (h : BR F t b w) : BR (unF n id F) t b w := BR.un hl (by rw [renB_id]; exact h)
structure Wk (b1 b2 : Blk) : Prop where
  rom : b1.isRom = false ∧ b2.isRom = false
  br : ∀ F t w, BR F t b1 w → BR F t b2 w
theorem Wk.refl {b : Blk} (h : b.isRom = false) : Wk b b := ⟨⟨h, h⟩, fun _ _ _ h => h⟩
theorem unF_lt {m i : Nat} {F : FM} (h : i < m) : unF m id F i = F i := by simp [unF, h]
theorem Stp.gc {F : FM} {H : Heap} {nx : Nat} {w : World} {F1 : FM} {H1 : Heap} {nx1 : Nat} {w1 : World} (hst : Stp F H nx w F1 H1 nx1 w1) {m : Nat} (hm : nx ≤ m) {H2 : Heap}
    (h : ∀ i b2, getH H2 i = some b2 → i < m ∧ lowB m b2 = true ∧ ∃ b1, getH H1 i = some b1 ∧ Wk b1 b2) : Stp F H nx w (unF m id F1) H2 m w1 := by
  have own : ∀ b, Own (unF m id F1) H2 m b → Own F1 H1 nx1 b := by
    rintro b ⟨i, k, t, hi, hg, hrk, hF, e⟩
    obtain ⟨_, _, b1, hg1, hw⟩ := h i k hg
    exact ⟨i, b1, t, hst.hr.low hg1, hg1, hw.rom.1, by rw [unF_lt hi] at hF; exact hF, e⟩
  refine ⟨hm, fun i hi => (unF_lt (by omega)).trans (hst.ext i hi), hst.os, hst.tape, hst.output, hst.size, hst.frame, fun b hb => hst.own b (own b hb), fun i hi hn => ?_, fun i b hg hrb => ?_, ?_⟩
  · cases hg : getH H2 i with
    | none => rfl
    | some b2 => obtain ⟨_, _, b1, hg1, _⟩ := h i b2 hg; rw [hst.keep i hi hn] at hg1; cases hg1
  · obtain ⟨_, _, b1, _, hw⟩ := h i b hg; rw [hw.rom.2] at hrb; cases hrb
  · refine ⟨fun i b2 hi hg => ?_, fun i j bi bj ti tj hi hj gi gj fi fj e => ?_, fun i hi => by simp [unF]; omega, fun i hi => ?_, hst.hr.gl.1, fun x hx ho => hst.hr.gl.2 x hx (own _ ho)⟩
    · obtain ⟨_, hl, b1, hg1, hw⟩ := h i b2 hg
      obtain ⟨t, hF, hb⟩ := hst.hr.blk i b1 (hst.hr.low hg1) hg1
      exact ⟨t, (unF_lt hi).trans hF, BR.low hl (hw.br _ _ _ hb)⟩
    · obtain ⟨_, _, b1, hg1, hw1⟩ := h i bi gi
      obtain ⟨_, _, b2, hg2, hw2⟩ := h j bj gj
      rw [unF_lt hi] at fi; rw [unF_lt hj] at fj
      rcases hst.hr.inj i j b1 b2 ti tj (hst.hr.low hg1) (hst.hr.low hg2) hg1 hg2 fi fj e with h' | h'
      · exact .inl h'
      · rw [hw1.rom.1] at h'; cases h'.1
    · cases hg : getH H2 i with
      | none => rfl
      | some b2 => exact absurd (h i b2 hg).1 (by omega)
theorem Stp.wk {F : FM} {H : Heap} {nx : Nat} {w : World} {F1 : FM} {H1 : Heap} {nx1 : Nat} {w1 : World} (hst : Stp F H nx w F1 H1 nx1 w1) {H2 : Heap}
    (h : ∀ i b2, getH H2 i = some b2 → getH H1 i = some b2 ∨ ∃ b1, getH H1 i = some b1 ∧ Wk b1 b2) : Stp F H nx w F1 H2 nx1 w1 := by
  have own : ∀ b, Own F1 H2 nx1 b → Own F1 H1 nx1 b := by
    rintro b ⟨i, k, t, hi, hg, hrk, hF, e⟩
    rcases h i k hg with hg1 | ⟨b1, hg1, hw⟩
    · exact ⟨i, k, t, hi, hg1, hrk, hF, e⟩
    · exact ⟨i, b1, t, hi, hg1, hw.rom.1, hF, e⟩
  refine ⟨hst.le, hst.ext, hst.os, hst.tape, hst.output, hst.size, hst.frame, fun b hb => hst.own b (own b hb), fun i hi hn => ?_, fun i b hg hrb => ?_, ?_⟩
  · cases hg : getH H2 i with
    | none => rfl
    | some b2 => rcases h i b2 hg with hg1 | ⟨b1, hg1, _⟩ <;> (rw [hst.keep i hi hn] at hg1; cases hg1)
  · rcases h i b hg with hg1 | ⟨b1, _, hw⟩
    · exact hst.rom i b hg1 hrb
    · rw [hw.rom.2] at hrb; cases hrb
  · refine ⟨fun i b2 hi hg => ?_, fun i j bi bj ti tj hi hj gi gj fi fj e => ?_, hst.hr.fresh, fun i hi => ?_, hst.hr.gl.1, fun x hx ho => hst.hr.gl.2 x hx (own _ ho)⟩
    · rcases h i b2 hg with hg1 | ⟨b1, hg1, hw⟩
      · exact hst.hr.blk i b2 hi hg1
      · obtain ⟨t, hF, hb⟩ := hst.hr.blk i b1 hi hg1
        exact ⟨t, hF, hw.br _ _ _ hb⟩
    · have up : ∀ i b, getH H2 i = some b → ∃ b1, getH H1 i = some b1 ∧ (b1 = b ∨ b1.isRom = false) := fun i b hg => by
        rcases h i b hg with hg1 | ⟨b1, hg1, hw⟩
        · exact ⟨b, hg1, .inl rfl⟩
        · exact ⟨b1, hg1, .inr hw.rom.1⟩
      obtain ⟨b1, hg1, e1⟩ := up i bi gi
      obtain ⟨b2, hg2, e2⟩ := up j bj gj
      rcases hst.hr.inj i j b1 b2 ti tj hi hj hg1 hg2 fi fj e with h' | h'
      · exact .inl h'
      · refine .inr ⟨?_, ?_⟩
        · rcases e1 with rfl | e1
          · exact h'.1
          · rw [e1] at h'; cases h'.1
        · rcases e2 with rfl | e2
          · exact h'.2
          · rw [e2] at h'; cases h'.2
    · cases hg : getH H2 i with
      | none => rfl
      | some b2 => rcases h i b2 hg with hg1 | ⟨b1, hg1, _⟩ <;> (rw [hst.hr.top i hi] at hg1; cases hg1)
/-- The same entries in another order, their births forgotten. -/
theorem ML.wk {F : FM} {es es2 es' : List MapEntry} (h : ML F es es') (hp : (es2.map (·.key)).Perm (es.map (·.key))) (hv : ∀ e2 ∈ es2, ∃ e ∈ es, e.key = e2.key ∧ e.val = e2.val ∧ (e.born = e2.born ∨ e2.born = unb)) : ML F es2 es' := by
  obtain ⟨c, hc1, hc2⟩ := h.cls
  refine ⟨hp.nodup_iff.2 h.nd, h.nd', ?_, ⟨c, fun e2 he => ?_, hc2⟩, fun e2 he => ?_, fun e' he' => ?_⟩
  · rw [← h.len]; have := hp.length_eq; simpa using this
  · obtain ⟨e, he1, hk, _⟩ := hv e2 he; rw [← hk]; exact hc1 e he1
  · obtain ⟨e, he1, hk, hval, hb⟩ := hv e2 he
    obtain ⟨f1, e', hm, g1, g2, g3⟩ := h.fwd e he1
    refine ⟨by rw [← hk]; exact f1, e', hm, by rw [g1, hk], by rw [← hval]; exact g2, ?_⟩
    rcases hb with hb | hb
    · rw [← hb]; exact g3
    · exact .inr hb
  · obtain ⟨e, he, hk⟩ := h.bwd e' he'
    have : e'.key ∈ es2.map (·.key) := hp.mem_iff.2 (List.mem_map.2 ⟨e, he, hk⟩)
    obtain ⟨e2, he2, hk2⟩ := List.mem_map.1 this
    exact ⟨e2, he2, hk2⟩
theorem Wk.map {es es2 : List MapEntry} {k : Nat} (hp : (es2.map (·.key)).Perm (es.map (·.key))) (hv : ∀ e2 ∈ es2, ∃ e ∈ es, e.key = e2.key ∧ e.val = e2.val ∧ (e.born = e2.born ∨ e2.born = unb)) : Wk (.map es k) (.map es2 k) :=
  ⟨⟨rfl, rfl⟩, fun F t w ⟨h0, es', c', h1, hc, h2, h3⟩ => ⟨h0, es', c', h1, hc, h2.wk hp hv, h3⟩⟩

/-! Parts of a list. -/
def subs {α : Type} : List α → List (List α × List α)
  | [] => [([], [])]
  | a :: l => (subs l).map (fun p => (p.1, a :: p.2)) ++ (subs l).map (fun p => (a :: p.1, p.2))
theorem subs_nil {α : Type} : ∀ l : List α, ([], l) ∈ subs l
  | [] => by simp [subs]
  | a :: l => by simp only [subs, List.mem_append, List.mem_map]; exact .inl ⟨_, subs_nil l, rfl⟩
theorem subs_perm {α : Type} : ∀ {l : List α} {c r : List α}, (c, r) ∈ subs l → (c ++ r).Perm l
  | [], c, r, h => by simp [subs] at h; obtain ⟨rfl, rfl⟩ := h; exact List.Perm.refl _
  | a :: l, c, r, h => by
    simp only [subs, List.mem_append, List.mem_map] at h
    rcases h with ⟨p, hp, e⟩ | ⟨p, hp, e⟩
    · cases e; exact List.perm_middle.trans ((subs_perm hp).cons a)
    · cases e; exact (subs_perm hp).cons a
theorem subs_pick {α : Type} : ∀ {l : List α} {c r : List α}, (c, r) ∈ subs l → ∀ x ∈ r, ∃ c' r', (c', r') ∈ subs l ∧ c'.Perm (x :: c) ∧ r.Perm (x :: r')
  | [], c, r, h, x, hx => by simp [subs] at h; obtain ⟨rfl, rfl⟩ := h; cases hx
  | a :: l, c, r, h, x, hx => by
    simp only [subs, List.mem_append, List.mem_map] at h
    rcases h with ⟨p, hp, e⟩ | ⟨p, hp, e⟩
    · cases e
      rcases List.mem_cons.1 hx with rfl | hx
      · exact ⟨x :: p.1, p.2, by simp only [subs, List.mem_append, List.mem_map]; exact .inr ⟨p, hp, rfl⟩, List.Perm.refl _, List.Perm.refl _⟩
      · obtain ⟨c', r', h1, h2, h3⟩ := subs_pick hp x hx
        exact ⟨c', a :: r', by simp only [subs, List.mem_append, List.mem_map]; exact .inl ⟨_, h1, rfl⟩, h2, (h3.cons a).trans (List.Perm.swap _ _ _)⟩
    · cases e
      obtain ⟨c', r', h1, h2, h3⟩ := subs_pick hp x hx
      exact ⟨a :: c', r', by simp only [subs, List.mem_append, List.mem_map]; exact .inr ⟨_, h1, rfl⟩, (h2.cons a).trans (List.Perm.swap _ _ _), h3⟩

/-! Code as a function of its state. -/
structure Out where
  o : Ox
  T : Ev
  H : Heap
  nx : Nat
abbrev OCall := CallT (Option Out)
noncomputable def runC (c : C) (P : Program) (d : Nat) (call : OCall) (T : Ev) (H : Heap) (nx : Nat) : Option Out :=
  execC c P d call (chkB P) (fixN 1000000) none T H nx (fun T H nx => some ⟨.n, T, H, nx⟩) (fun id T H nx => some ⟨.x id, T, H, nx⟩) (fun T H nx => some ⟨.r, T, H, nx⟩)
/-- What is left of a round, behind its first operation. -/
noncomputable def roundM (l : List S) (c : C) (P : Program) (d : Nat) (call : OCall) (T : Ev) (H : Heap) (nx : Nat) : Option Out :=
  (rgC (Option Out) P d l).run call none (fun T H nx => runC c P d call T H nx) T H nx

section
variable {P : Program} {d n : Nat}
theorem runC_sound (hm : P.follows .mixedOrders = true) (hn : n ≤ 2 ^ d) {call : OCall} (hcall : CallOK P call) {code : Code} {c : C} (hc : compC P n code = some c) {T : Ev} {H : Heap} {nx : Nat} {o : Ox} {T' : Ev} {H' : Heap} {nx' : Nat}
    (h : runC c P d call T H nx = some ⟨o, T', H', nx'⟩) (hw : WF d T) : WF d T' ∧ CodeOK P d n code T H nx o T' H' nx' := by
  unfold runC at h
  rcases exec_sound (n := n) hm hn hcall (chkB_ok P) (fixN_ok 1000000) none code c hc T H nx (fun T H nx => some ⟨.n, T, H, nx⟩) (fun id T H nx => some ⟨.x id, T, H, nx⟩) (fun T H nx => some ⟨.r, T, H, nx⟩) hw with e | ⟨o1, T1, H1, nx1, e, hw1, hok⟩
  · rw [e] at h; cases h
  · rw [e] at h
    have : o = o1 ∧ T' = T1 ∧ H' = H1 ∧ nx' = nx1 := by cases o1 <;> (simp only [Ox.go, Option.some.injEq, Out.mk.injEq] at h; obtain ⟨h1, h2, h3, h4⟩ := h; exact ⟨h1.symm, h2.symm, h3.symm, h4.symm⟩)
    obtain ⟨rfl, rfl, rfl, rfl⟩ := this
    exact ⟨hw1, hok⟩
theorem roundM_sound (hm : P.follows .mixedOrders = true) (hn : n ≤ 2 ^ d) {call : OCall} (hcall : CallOK P call) {ops : Array Oper} {o0 : Oper} {tl : List Oper} (hops : ops.toList = o0 :: tl) {l : List S} (hl : compSs P n ops.toList tl = some l) {rest : Code} {c : C} (hc : compC P n rest = some c)
    {T : Ev} {H : Heap} {nx : Nat} {o : Ox} {T' : Ev} {H' : Heap} {nx' : Nat} (h : roundM l c P d call T H nx = some ⟨o, T', H', nx'⟩) (hw : WF d T) :
    WF d T' ∧ ∀ (F : FM) (a : Act) (w : World) (Q : Exit → Act → World → Prop), TR d F T n a.tmps → HR F H nx w →
      (∀ F' a' w', TR d F' T' n a'.tmps → Stp F H nx w F' H' nx' w' → a'.defers = a.defers → Q o.exit a' w') → wpOps P ops (Exit.then (rest.wp P Q) Q) (List.range' 1 tl.length) a w := by
  unfold roundM at h
  rw [rg_eq] at h
  rcases ops_seg (ops := ops.toList) hn hcall none (fun T H nx => runC c P d call T H nx) tl l 1 hl (fun j hj => by rw [hops, Nat.add_comm]; rfl) T H nx with e | ⟨T1, H1, nx1, e, hw1, hp⟩
  · rw [e] at h; cases h
  · rw [e] at h
    obtain ⟨hw2, hok⟩ := runC_sound hm hn hcall hc h (hw1 hw).1
    refine ⟨hw2, fun F a w Q ht hr hk => ?_⟩
    have := hp F a w (Exit.then (rest.wp P Q) Q) [] ht hr fun F1 a1 w1 ht1 hst1 hd1 => ?_
    · simpa using this
    · show wpOps P _ _ [] a1 w1
      simp only [wpOps, Exit.then]
      exact hok F1 a1 w1 Q ht1 hst1.hr fun F2 a2 w2 ht2 hst2 hd2 => hk F2 a2 w2 ht2 (hst1.trans hst2) (hd2.trans hd1)
/-- The head of a round: what is left of its first region, and the code that follows it, before the block. -/
theorem headM_sound (hm : P.follows .mixedOrders = true) (hn : n ≤ 2 ^ d) {call : OCall} (hcall : CallOK P call) {ops : Array Oper} {o0 : Oper} {tl : List Oper} (hops : ops.toList = o0 :: tl) {l : List S} (hl : compSs P n ops.toList tl = some l) {pre blk : Code} {c : C} (hc : compC P n pre = some c)
    {T : Ev} {H : Heap} {nx : Nat} {o : Ox} {T' : Ev} {H' : Heap} {nx' : Nat} (h : roundM l c P d call T H nx = some ⟨o, T', H', nx'⟩) (hw : WF d T) :
    WF d T' ∧ ∀ (F : FM) (a : Act) (w : World) (Q : Exit → Act → World → Prop), TR d F T n a.tmps → HR F H nx w →
      (∀ F' a' w', TR d F' T' n a'.tmps → Stp F H nx w F' H' nx' w' → a'.defers = a.defers → Exit.then (blk.wp P Q) Q o.exit a' w') → wpOps P ops (Exit.then ((Code.seq pre blk).wp P Q) Q) (List.range' 1 tl.length) a w := by
  unfold roundM at h
  rw [rg_eq] at h
  rcases ops_seg (ops := ops.toList) hn hcall none (fun T H nx => runC c P d call T H nx) tl l 1 hl (fun j hj => by rw [hops, Nat.add_comm]; rfl) T H nx with e | ⟨T1, H1, nx1, e, hw1, hp⟩
  · rw [e] at h; cases h
  · rw [e] at h
    obtain ⟨hw2, hok⟩ := runC_sound hm hn hcall hc h (hw1 hw).1
    refine ⟨hw2, fun F a w Q ht hr hk => ?_⟩
    have := hp F a w (Exit.then ((Code.seq pre blk).wp P Q) Q) [] ht hr fun F1 a1 w1 ht1 hst1 hd1 => ?_
    · simpa using this
    · show wpOps P _ _ [] a1 w1
      simp only [wpOps, Exit.then]
      exact wp_seq (hok F1 a1 w1 (Exit.then (blk.wp P Q) Q) ht1 hst1.hr fun F2 a2 w2 ht2 hst2 hd2 => hk F2 a2 w2 ht2 (hst1.trans hst2) (hd2.trans hd1))
end
end Go.Clo

namespace Go.Clo
open Go.ChangeMaps (setBlock)

abbrev E2 := MapEntry × MapEntry
/-- The names in a value. -/
def namesV : Nat → Value → List Nat
  | 0, _ => []
  | k + 1, v => match v with
    | .pointer (some ⟨b, _, none⟩) => [b]
    | .slice (some ⟨b, _, none⟩) _ _ => [b]
    | .map (some r) => [r]
    | .iface _ v => namesV k v
    | .agg x => x.toList.flatMap (namesV k)
    | .tuple x => x.toList.flatMap (namesV k)
    | _ => []
noncomputable def namesT (T : Ev) : Nat → List Nat
  | 0 => []
  | t + 1 => namesV 6 (gv T t) ++ namesT T t
noncomputable def restH (H : Heap) : List Nat → Heap
  | [] => .leaf
  | i :: l => match getH H i with
    | some b => hsK (restH H l) i (some b) id
    | none => restH H l
theorem restH_sub {H : Heap} : ∀ {l : List Nat} {i : Nat} {b : Blk}, getH (restH H l) i = some b → getH H i = some b ∧ i ∈ l
  | [], i, b, h => by rw [restH, getH_leaf] at h; cases h
  | j :: l, i, b, h => by
    rw [restH] at h
    split at h
    · rename_i b0 hb0
      rw [hsK_eq] at h
      simp only [id] at h
      rw [getH_hs] at h
      by_cases e : i = j
      · subst e; rw [if_pos rfl] at h; cases h; exact ⟨hb0, by simp⟩
      · rw [if_neg e] at h
        obtain ⟨h1, h2⟩ := restH_sub h
        exact ⟨h1, List.mem_cons_of_mem _ h2⟩
    · obtain ⟨h1, h2⟩ := restH_sub h
      exact ⟨h1, List.mem_cons_of_mem _ h2⟩
noncomputable def poisonL (d : Nat) : List Nat → Ev → Ev
  | [], T => T
  | t :: l, T => tsK d T t poison (poisonL d l)
/-- The temporaries as they were, but for those that nobody looks at. -/
noncomputable def okTm (nx : Nat) (A B : Ev) : Nat → Bool
  | 0 => true
  | t + 1 => cond (match gv A t with
    | .chan none => true
    | v => veq 65536 v (gv B t) && lowV 16 nx v) (okTm nx A B t) false
noncomputable def okHm (nx D : Nat) (A B : Heap) : List Nat → Bool
  | [] => true
  | i :: l => cond (Nat.beq i D || (match getH A i with
    | none => true
    | some b => (match getH B i with
      | some b' => beqB b b' && lowB nx b
      | none => false))) (okHm nx D A B l) false
/-- What a round needs: the map D is being filled, ns are the names in the temporaries and behind them. -/
structure LpU where
  q : Nat
  ti : Nat
  l : List S
  cc : C
  q2 : Nat
  l2 : List S
  l3 : List S
  kd : TypeDesc
  M : X
  K1 : X
  V1 : X
  Tp : Ev
  Hs : Heap
  D : Nat
  ns : List Nat
noncomputable def tupE (e : MapEntry) : Value := .tuple ⟨[.bool true, e.key, e.val]⟩
noncomputable def pairE (e : MapEntry) : Value := .tuple ⟨[e.key, e.val]⟩
/-- The operations of a region, run. -/
noncomputable def midM (l : List S) (P : Program) (d : Nat) (call : OCall) (T : Ev) (H : Heap) (nx : Nat) : Option Out :=
  (rgC (Option Out) P d l).run call none (fun T H nx => some ⟨.n, T, H, nx⟩) T H nx
noncomputable def mid2 (P : Program) (d : Nat) (call : OCall) (l2 l3 : List S) (T : Ev) (H : Heap) (nx : Nat) : Option Out :=
  match midM l2 P d call T H nx with
  | some ⟨.n, T, H, nx⟩ => midM l3 P d call T H nx
  | _ => none
/-- A round that begins with an entry: the entry that it puts into D. -/
noncomputable def itemU (P : Program) (d n : Nat) (call : OCall) (L : LpU) (nx : Nat) (e : MapEntry) : Option MapEntry :=
  match tsK d L.Tp L.q (tupE e) fun T => roundM L.l L.cc P d call T L.Hs nx with
  | some ⟨.n, T, H, nx1⟩ => cond (veq 65536 (gv T L.ti) (gv L.Tp L.ti)) (tsK d T L.q2 (pairE e) fun T => match mid2 P d call L.l2 L.l3 T H nx1 with
    | some ⟨.n, T, H, _⟩ => cond (veq 65536 (ev T L.M) (.map (some L.D)) && (okTm nx L.Tp T n && (okHm nx L.D L.Hs H L.ns && (keyKind L.kd (ev T L.K1) && (lowV 16 nx (ev T L.K1) && lowV 16 nx (ev T L.V1))))))
      (some ⟨ev T L.K1, ev T L.V1, 1000000000000⟩) none
    | _ => none) none
  | _ => none
noncomputable def itemsU (P : Program) (d n : Nat) (call : OCall) (L : LpU) (nx : Nat) : List MapEntry → Option (List E2)
  | [] => some []
  | e :: es => match itemU P d n call L nx e, itemsU P d n call L nx es with
    | some f, some l => some ((e, f) :: l)
    | _, _ => none
theorem itemsU_inv {P : Program} {d n : Nat} {call : OCall} {L : LpU} {nx : Nat} : ∀ {es : List MapEntry} {its : List E2}, itemsU P d n call L nx es = some its → its.map (·.1) = es ∧ ∀ x ∈ its, itemU P d n call L nx x.1 = some x.2
  | [], its, h => by simp [itemsU] at h; subst h; exact ⟨rfl, fun _ h => by cases h⟩
  | e :: es, its, h => by
    simp only [itemsU] at h
    split at h
    · rename_i f l h1 h2
      cases h
      obtain ⟨g1, g2⟩ := itemsU_inv h2
      refine ⟨by simp [g1], fun x hx => ?_⟩
      rcases List.mem_cons.1 hx with rfl | hx
      · exact h1
      · exact g2 x hx
    · cases h
/-- No key twice. -/
def okK (kd : TypeDesc) : List E2 → Bool
  | [] => true
  | x :: l => cond (match Instr.findNow kd x.2.key (l.map (·.2)) 0 with
    | some none => true
    | _ => false) (okK kd l) false
def KR (x y : E2) : Prop := x.2.key ≠ y.2.key ∧ kcls x.2.key = kcls y.2.key
theorem KR.symm {x y : E2} (h : KR x y) : KR y x := ⟨h.1.symm, h.2.symm⟩
theorem okK_inv {kd : TypeDesc} : ∀ {l : List E2}, okK kd l = true → l.Pairwise KR
  | [], _ => List.Pairwise.nil
  | x :: l, h => by
    rw [okK] at h
    split at h
    · rename_i hf
      refine List.Pairwise.cons (fun y hy => ?_) (okK_inv h)
      obtain ⟨g1, g2⟩ := findNow_none hf y.2 (List.mem_map.2 ⟨y, hy, rfl⟩)
      exact ⟨fun e => g1 e.symm, g2.symm⟩
    · cases h
noncomputable def endR (P : Program) (d : Nat) (call : OCall) (L : LpU) (it : Nat) (H : Heap) (nx : Nat) (its : List E2) : Option Out :=
  tsK d L.Tp L.q (.tuple ⟨[.bool false]⟩) fun T => hsK H it none fun H => hsK H L.D (some (.map (its.map (·.2)) its.length)) fun H => match roundM L.l L.cc P d call T H nx with
    | some ⟨.n, _, _, _⟩ => none
    | r => r
/-- The new map: the last temporary that holds an empty one. -/
noncomputable def findD (T : Ev) (H : Heap) : Nat → Option Nat
  | 0 => none
  | t + 1 => match gv T t with
    | .map (some D) => (match getH H D with
      | some (.map [] 0) => some D
      | _ => findD T H t)
    | _ => findD T H t
noncomputable def mapLoop (P : Program) (d n : Nat) (call : OCall) (q ti : Nat) (l : List S) (cc : C) (q2 : Nat) (l2 l3 : List S) (kd : TypeDesc) (M K1 V1 : X) (dead : List Nat) (T : Ev) (H : Heap) (nx : Nat) : Option Out :=
  match gv T ti, findD T H n with
  | .pointer (some ⟨it, 0, none⟩), some D => (match getH H it, getH H D with
    | some (.iter (some r) since none), some (.map [] 0) => (match getH H r with
      | some (.map es clock) => cond (Nat.beq clock since && !(Nat.beq since 1000000000000) && !(Nat.beq D r) && !(Nat.beq D it) && Nat.ble 2 es.length && Nat.ble es.length 1000)
        ((fun (Tp : Ev) (ns : List Nat) => (fun L => match itemsU P d n call L nx es with
          | some its => cond (okK kd its && (okTm nx Tp T n && veq 65536 (gv Tp ti) (gv T ti))) (endR P d call L it H nx its) none
          | none => none) ⟨q, ti, l, cc, q2, l2, l3, kd, M, K1, V1, Tp, restH H ns, D, ns⟩) (poisonL d dead T) (((namesT T n).filter fun i => !(Nat.beq i it) && (!(Nat.beq i r) && !(Nat.beq i D))).eraseDups)) none
      | _ => none)
    | _, _ => none)
  | _, _ => none

section
variable {P : Program} {d n : Nat}
theorem okTm_sound {nx : Nat} {A B : Ev} : ∀ {n : Nat}, okTm nx A B n = true → ∀ t, t < n → gv A t = poison ∨ (gv A t = gv B t ∧ lowV 16 nx (gv A t) = true)
  | 0, _, t, ht => by omega
  | n + 1, h, t, ht => by
    rw [okTm] at h
    have key : (match gv A n with | .chan none => true | v => veq 65536 v (gv B n) && lowV 16 nx v) = true ∧ okTm nx A B n = true := by
      generalize (match gv A n with | .chan none => true | v => veq 65536 v (gv B n) && lowV 16 nx v) = b at *
      cases b with
      | true => exact ⟨rfl, h⟩
      | false => cases h
    by_cases e : t = n
    · subst e
      have k := key.1
      split at k
      · rename_i hp; exact .inl hp
      · rw [Bool.and_eq_true] at k
        exact .inr ⟨veq_eq k.1, k.2⟩
    · exact okTm_sound key.2 t (by omega)
theorem TR.ok {F : FM} {A B : Ev} {tmps : Array Value} {nx : Nat} (ht : TR d F B n tmps) (h : okTm nx A B n = true) : TR d (unF nx id F) A n tmps ∧ TR d F A n tmps := by
  have e : ∀ (T : Ev) (t : Nat), (tg T t).getD undef = gv T t := fun T t => by rw [tg_gv]; rfl
  refine ⟨⟨ht.wf, ht.size, ht.le, fun t hlt => ?_⟩, ⟨ht.wf, ht.size, ht.le, fun t hlt => ?_⟩⟩
  all_goals
    have := ht.get t hlt
    rw [e] at this ⊢
    rcases okTm_sound h t hlt with hp | ⟨hq, hl⟩
  · rw [hp]; exact .any _
  · rw [hq] at hl ⊢; exact VR.low hl this
  · rw [hp]; exact .any _
  · rw [hq]; exact this
theorem okHm_inv {nx D : Nat} {A B : Heap} : ∀ {ns : List Nat}, okHm nx D A B ns = true → ∀ i ∈ ns, i ≠ D → ∀ b, getH A i = some b → getH B i = some b ∧ lowB nx b = true
  | [], _, i, hi, _, _, _ => by cases hi
  | j :: l, h, i, hi, hne, b, hb => by
    rw [okHm] at h
    cases hc : (Nat.beq j D || (match getH A j with | none => true | some b => (match getH B j with | some b' => beqB b b' && lowB nx b | none => false))) with
    | false => rw [hc] at h; cases h
    | true =>
      rw [hc] at h
      rcases List.mem_cons.1 hi with rfl | hi
      · rw [Bool.or_eq_true] at hc
        rcases hc with hc | hc
        · exact absurd (Nat.eq_of_beq_eq_true hc) hne
        · rw [hb] at hc
          dsimp only at hc
          split at hc
          · rename_i b' hb'
            rw [Bool.and_eq_true] at hc
            exact ⟨by rw [hb', beqB_eq hc.1], hc.2⟩
          · cases hc
      · exact okHm_inv h i hi hne b hb
theorem nodup_key {es : List MapEntry} (h : (es.map (·.key)).Nodup) {a b : MapEntry} (ha : a ∈ es) (hb : b ∈ es) (hk : a.key = b.key) : a = b := by
  have := List.pairwise_map.1 h
  rcases Classical.em (a = b) with g | g
  · exact g
  · exfalso
    obtain ⟨i, hi, e1⟩ := List.mem_iff_getElem.1 ha
    obtain ⟨j, hj, e2⟩ := List.mem_iff_getElem.1 hb
    have hij : i ≠ j := fun e3 => g (by subst e3; rw [← e1, ← e2])
    have hn := List.pairwise_iff_getElem.1 this
    rcases Nat.lt_or_ge i j with h3 | h3
    · exact hn i j hi hj h3 (by rw [e1, e2, hk])
    · exact hn j i hj hi (by omega) (by rw [e1, e2, hk])
theorem nodup_born {es : List MapEntry} (h : (es.map (·.born)).Nodup) {a b : MapEntry} (ha : a ∈ es) (hb : b ∈ es) (hk : a.born = b.born) : a = b := by
  have := List.pairwise_map.1 h
  rcases Classical.em (a = b) with g | g
  · exact g
  · exfalso
    obtain ⟨i, hi, e1⟩ := List.mem_iff_getElem.1 ha
    obtain ⟨j, hj, e2⟩ := List.mem_iff_getElem.1 hb
    have hij : i ≠ j := fun e3 => g (by subst e3; rw [← e1, ← e2])
    have hn := List.pairwise_iff_getElem.1 this
    rcases Nat.lt_or_ge i j with h3 | h3
    · exact hn i j hi hj h3 (by rw [e1, e2, hk])
    · exact hn j i hj hi (by omega) (by rw [e1, e2, hk])
theorem setBlock_at {w : World} {r : Nat} {o : Obj} (h : r < w.heap.size) : (setBlock w r o).heap[r]? = some o := by simp [setBlock, h]
theorem setBlock_ne {w : World} {r k : Nat} {o : Obj} (h : k ≠ r) : (setBlock w r o).heap[k]? = w.heap[k]? := by simp [setBlock, Array.getElem?_setIfInBounds_ne (Ne.symm h)]


def lastO : List Oper → Option (List Oper × Oper)
  | [] => none
  | o :: l => match lastO l with
    | some (p, q) => some (o :: p, q)
    | none => match l with
      | [] => some ([], o)
      | _ => none
theorem lastO_app : ∀ {l p : List Oper} {q : Oper}, lastO l = some (p, q) → l = p ++ [q]
  | [], p, q, h => by cases h
  | [o], p, q, h => by cases h; rfl
  | o :: o2 :: l, p, q, h => by
    have e : lastO (o :: o2 :: l) = match lastO (o2 :: l) with
      | some (p, q) => some (o :: p, q)
      | none => none := by
      rw [show lastO (o :: o2 :: l) = _ from lastO.eq_def _]
    rw [e] at h
    cases h1 : lastO (o2 :: l) with
    | none => rw [h1] at h; cases h
    | some r =>
      rw [h1] at h
      cases h
      rw [lastO_app h1]; rfl
section
variable {P : Program} {d n : Nat}
theorem midM_sound (hn : n ≤ 2 ^ d) {call : OCall} (hcall : CallOK P call) {ops : Array Oper} {pre mid suf : List Oper} (hops : ops.toList = pre ++ (mid ++ suf)) {l : List S} (hl : compSs P n ops.toList mid = some l)
    {T : Ev} {H : Heap} {nx : Nat} {o : Ox} {T' : Ev} {H' : Heap} {nx' : Nat} (h : midM l P d call T H nx = some ⟨o, T', H', nx'⟩) (hw : WF d T) :
    o = .n ∧ WF d T' ∧ ∀ (F : FM) (a : Act) (w : World) (R : Exit → Act → World → Prop) (rest : List Nat), TR d F T n a.tmps → HR F H nx w →
      (∀ F' a' w', TR d F' T' n a'.tmps → Stp F H nx w F' H' nx' w' → a'.defers = a.defers → wpOps P ops R rest a' w') → wpOps P ops R (List.range' pre.length mid.length ++ rest) a w := by
  unfold midM at h
  rw [rg_eq] at h
  rcases ops_seg (ops := ops.toList) hn hcall none (fun T H nx => some (⟨.n, T, H, nx⟩ : Out)) mid l pre.length hl (fun j hj => by rw [hops, List.getElem?_append_right (by omega), Nat.add_sub_cancel_left, List.getElem?_append_left hj]) T H nx with e | ⟨T1, H1, nx1, e, hw1, hp⟩
  · rw [e] at h; cases h
  · rw [e] at h
    cases h
    exact ⟨rfl, (hw1 hw).1, fun F a w R rest ht hr hk => by simpa using hp F a w R rest ht hr fun F1 a1 w1 ht1 hst1 hd1 => by simpa using hk F1 a1 w1 ht1 hst1 hd1⟩
theorem mid2_inv {l2 l3 : List S} {call : OCall} {T : Ev} {H : Heap} {nx : Nat} {r : Out} (h : mid2 P d call l2 l3 T H nx = some r) : ∃ T1 H1 nx1, midM l2 P d call T H nx = some ⟨.n, T1, H1, nx1⟩ ∧ midM l3 P d call T1 H1 nx1 = some r := by
  unfold mid2 at h
  split at h
  · rename_i T1 H1 nx1 h1; exact ⟨T1, H1, nx1, h1, h⟩
  · cases h
theorem upd_one {kd : TypeDesc} {M K1 V1 : X} {T : Ev} {H : Heap} {nx D : Nat} {es : List MapEntry} {c : Nat} {call : OCall} (hM : ev T M = .map (some D)) (hD : getH H D = some (.map es c)) (hk : keyKind kd (ev T K1) = true) (hno : Instr.findNow kd (ev T K1) es 0 = some none) (hc : c < 1000000000000) :
    evE (.upd kd M K1 V1) call T H nx (none : Option Out) (fun _ H nx => some ⟨.n, T, H, nx⟩) = some ⟨.n, T, hs H D (some (.map (es ++ [⟨ev T K1, ev T V1, c⟩]) (c + 1))), nx⟩ := by
  show eUpd kd M K1 V1 call T H nx none (fun _ H nx => some ⟨.n, T, H, nx⟩) = _
  have hb : Nat.beq c 1000000000000 = false := by
    cases h : Nat.beq c 1000000000000 with
    | false => rfl
    | true => have := Nat.eq_of_beq_eq_true h; omega
  unfold eUpd
  rw [evK_eq, evK_eq, evK_eq, hM]
  dsimp only
  rw [getB_eq, hD]
  dsimp only [Option.elim_some]
  unfold updK
  dsimp only
  rw [hk, hno]
  dsimp only [cond_true]
  rw [spine_eq, forceN_eq, hsK_eq, hb]
  rfl
end
/-- The whole heap behind some entries. -/
noncomputable def HF (H0 : Heap) (it r since D : Nat) (c : List E2) : Heap := hs (hs H0 it (some (.iter (some r) since (some unb)))) D (some (.map (c.map (·.2)) c.length))
theorem loop_main (hm : P.follows .mixedOrders = true) (hn : n ≤ 2 ^ d) {call : OCall} (hcall : CallOK P call) {id : Nat} {ops : Array Oper} {o0 : Oper} {tl : List Oper} (hops : ops.toList = o0 :: tl) {L : LpU} (hl : compSs P n ops.toList tl = some L.l)
    {pre : Code} (hcc : compC P n pre = some L.cc) {bid id2 : Nat} {ops2 : Array Oper} {o1 oU : Oper} {tl2 mid : List Oper} (hops2 : ops2.toList = o1 :: tl2) (hl2 : compSs P n ops2.toList tl2 = some L.l2) {id3 : Nat} {ops3 : Array Oper} (hops3 : ops3.toList = mid ++ [oU]) (hl3 : compSs P n ops3.toList mid = some L.l3)
    {t0 : TypeId} {m0 k0 v0 : Operand} {kt et : TypeId} (hgU : oU.guard = none) (hdU : oU.dst = none) (hoU : oU.op = .mapUpdate t0 m0 k0 v0) (hM : compX n m0 = some L.M) (hK : compX n k0 = some L.K1) (hV : compX n v0 = some L.V1) (hu : P.underlying t0 = some (.map kt et)) (hku : P.underlying kt = some L.kd)
    (hg0 : o0.guard = none) (hd0 : o0.dst = some L.q) (ho0 : o0.op = .next (.tmp L.ti) false) (hqn : L.q < n) (htn : L.ti < n) (hg1 : o1.guard = none) (hd1 : o1.dst = some L.q2) (ho1 : o1.op = .entry (.tmp L.ti)) (hqn2 : L.q2 < n)
    {its : List E2} {nx : Nat} (hall : ∀ x ∈ its, itemU P d n call L nx x.1 = some x.2) (hkr : its.Pairwise KR) (hlen : its.length ≤ 1000) (hwT : WF d L.Tp)
    {H0 : Heap} {it r since : Nat} {es : List MapEntry} (hes : its.map (·.1) = es) (hDit : L.D ≠ it) (hDr : L.D ≠ r) (hit : getH H0 it = some (.iter (some r) since none)) (hr0 : getH H0 r = some (.map es since)) (hrit : r ≠ it)
    (hsub : ∀ i b, getH L.Hs i = some b → (i ≠ it ∧ i ≠ r ∧ i ≠ L.D) ∧ getH H0 i = some b ∧ i ∈ L.ns) (hti : gv L.Tp L.ti = .pointer (some ⟨it, 0, none⟩)) {o : Ox} {T' : Ev} {H' : Heap} {nx' : Nat} (hend : endR P d call L it H0 nx its = some ⟨o, T', H', nx'⟩) :
    ∀ (m : Nat) (c r' : List E2), (c, r') ∈ subs its → r'.length = m → ∀ (F : FM) (a : Act) (w : World) (Q : Exit → Act → World → Prop) (es' : Array MapEntry) (c' : Nat) (sn : Array Nat) (tt tr : Tgt),
      TR d F L.Tp n a.tmps → HR F (HF H0 it r since L.D c) nx w → F it = some tt → tt.base = 0 → F r = some tr → w.heap[tt.blk]? = some (.mapIter (some tr.blk) c' sn c') → w.heap[tr.blk]? = some (.map es' c') → ML F es es'.toList → MapKept.Stamped es' c' →
      (∀ x ∈ es'.toList, sn.contains x.born = true ↔ ∃ p ∈ c, p.1.key = x.key) →
      (∀ F' a' w', TR d F' T' n a'.tmps → Stp F (HF H0 it r since L.D c) nx w F' H' nx' w' → a'.defers = a.defers → Q o.exit a' w') →
      Code.rounds P (.seq (.region id ops false) (.seq pre (.block bid (.seq (.region id2 ops2 false) (.region id3 ops3 false))))) Q (m + 1) a w := by
  have hHF : ∀ c i, getH (HF H0 it r since L.D c) i = if i = L.D then some (.map (c.map (·.2)) c.length) else if i = it then some (.iter (some r) since (some unb)) else getH H0 i := fun c i => by
    unfold HF; rw [getH_hs, getH_hs]
  intro m
  induction m using Nat.strongRecOn with
  | ind m ih =>
  intro c r' hcr hr' F a w Q es' c' sn tt tr ht hr hFt hbt hFr hwt hwr hml hst hsn hpost
  have hrange : List.range ops.size = 0 :: List.range' 1 tl.length := by
    have : ops.size = tl.length + 1 := by have := congrArg List.length hops; simpa using this
    rw [this, List.range_eq_range', List.range'_succ]
  have hperm := subs_perm hcr
  have hkeys : (its.map fun p => p.1.key).Nodup := by
    have h1 := hml.nd
    rw [← hes, List.map_map] at h1
    exact h1
  have hdis : ∀ p ∈ c, ∀ x ∈ r', p.1.key ≠ x.1.key := by
    have h1 : ((c ++ r').map fun p => p.1.key).Nodup := (hperm.map _).nodup_iff.2 hkeys
    rw [List.map_append] at h1
    have h2 := (List.nodup_append.1 h1).2.2
    intro p hp x hx e
    exact h2 _ (List.mem_map.2 ⟨p, hp, rfl⟩) _ (List.mem_map.2 ⟨x, hx, rfl⟩) e
  have hitn : it < nx := hr.low (i := it) (b := .iter (some r) since (some unb)) (by rw [hHF, if_neg (Ne.symm hDit), if_pos rfl])
  have hmem : o0 ∈ ops.toList := by rw [hops]; simp
  have hio : ops[0]? = some o0 := by rw [← Array.getElem?_toList, hops]; rfl
  have hev : a.eval (.tmp L.ti) = .pointer (some ⟨tt.blk, 0, none⟩) := by
    have h1 := ht.get L.ti htn
    have e : (tg L.Tp L.ti).getD undef = gv L.Tp L.ti := by rw [tg_gv]; rfl
    rw [e, hti] at h1
    obtain ⟨_, t, hF, he⟩ := h1.ptr_inv
    rw [hFt] at hF; cases hF
    rw [hbt] at he
    exact he
  rw [rounds_succ]
  refine wp_seq (wp_region ?_)
  rw [hrange, wpOps_cons]
  unfold wpOp
  simp only [hio]
  rw [if_pos (by simp [Region.wanted, hg0])]
  refine .inl ?_
  rcases run_next_at (P := P) w o0.type tt.blk tr.blk c' c' sn es' c' hwt hwr hst.1 (Nat.le_refl _) with ⟨h0, hrun⟩ | ⟨e', he', w1, hw1, hrun⟩
  · -- nothing is left
    have hall' : ∀ x ∈ es'.toList, sn.contains x.born = true := by
      intro x hx
      cases hc : sn.contains x.born with
      | true => rfl
      | false =>
        exfalso
        have : x ∈ leftOf es' sn := by unfold leftOf; rw [Array.mem_filter]; exact ⟨by simpa using hx, by rw [hc]; rfl⟩
        have := Array.size_pos_of_mem this
        omega
    have hnil : r' = [] := by
      rcases List.eq_nil_or_concat r' with h | ⟨l, x, h⟩
      · exact h
      · exfalso
        have hx : x ∈ r' := by rw [h]; simp
        have hxi : x.1 ∈ es := by rw [← hes]; exact List.mem_map.2 ⟨x, hperm.mem_iff.1 (by simp [hx]), rfl⟩
        obtain ⟨_, x', hx', hk, _⟩ := hml.fwd x.1 hxi
        obtain ⟨p, hp, hpk⟩ := (hsn x' hx').1 (hall' x' hx')
        exact hdis p hp x hx (by rw [hpk, hk])
    subst hnil
    rw [List.append_nil] at hperm
    refine wp_of_value (v := .tuple #[.bool false]) (w' := w) ?_ ?_
    · simp only [execOp, ho0, hev, Sem.run_bind, hrun, Result.andThen_ok, Sem.run_pure]
    · rw [hd0]
      unfold endR at hend
      rw [tsK_eq, hsK_eq, hsK_eq] at hend
      split at hend
      · cases hend
      · rename_i hne
        obtain ⟨hw2, hok⟩ := headM_sound (blk := .block bid (.seq (.region id2 ops2 false) (.region id3 ops3 false))) hm hn hcall hops hl hcc hend (WF_ts d L.Tp L.q _ hwT)
        have hHe : ∀ i, getH (hs (hs H0 it none) L.D (some (.map (its.map (·.2)) its.length))) i = if i = L.D then some (.map (its.map (·.2)) its.length) else if i = it then none else getH H0 i := fun i => by rw [getH_hs, getH_hs]
        have hst1 : Stp F (HF H0 it r since L.D c) nx w F (hs (hs H0 it none) L.D (some (.map (its.map (·.2)) its.length))) nx w := by
          refine (Stp.refl hr).wk fun i b2 hb2 => ?_
          rw [hHe] at hb2
          rw [hHF]
          by_cases e1 : i = L.D
          · rw [if_pos e1] at hb2 ⊢; cases hb2
            refine .inr ⟨_, rfl, ?_⟩
            rw [show c.length = its.length from hperm.length_eq]
            refine Wk.map ?_ fun e2 he2 => ?_
            · rw [List.map_map, List.map_map]; exact (hperm.symm.map _)
            · obtain ⟨p, hp, rfl⟩ := List.mem_map.1 he2
              exact ⟨p.2, List.mem_map.2 ⟨p, hperm.mem_iff.2 hp, rfl⟩, rfl, rfl, .inl rfl⟩
          · rw [if_neg e1] at hb2 ⊢
            by_cases e2 : i = it
            · rw [if_pos e2] at hb2; cases hb2
            · rw [if_neg e2] at hb2 ⊢; exact .inl hb2
        have ht1 : TR d F (ts d L.Tp L.q (.tuple ⟨[.bool false]⟩)) n (a.put (some L.q) (.tuple #[.bool false])).tmps := ht.put hqn (VR.tuple' (.cons (.bool false) .nil))
        refine hok F _ w (Exit.then (Code.rounds P _ Q m) Q) ht1 hst1.hr fun F' a' w' ht' hst' hd' => ?_
        have := hpost F' a' w' ht' (hst1.trans hst') hd'
        cases o with
        | n => exact absurd hend (hne _ _ _)
        | x id => exact this
        | r => exact this
  · -- one entry comes
    have hel : e' ∈ es'.toList ∧ sn.contains e'.born = false := by
      unfold leftOf at he'
      simp only [Array.toList_filter, List.mem_filter] at he'
      exact ⟨he'.1, by simpa using he'.2⟩
    obtain ⟨e, hee, hek⟩ := hml.bwd e' hel.1
    obtain ⟨p, hpi, rfl⟩ : ∃ p ∈ its, p.1 = e := by rw [← hes] at hee; exact List.mem_map.1 hee
    have hpr : p ∈ r' := by
      rcases List.mem_append.1 (hperm.mem_iff.2 hpi) with h | h
      · have := (hsn e' hel.1).2 ⟨p, h, hek⟩
        rw [hel.2] at this; cases this
      · exact h
    obtain ⟨hfl, e2, he2, hk2, hvr, _⟩ := hml.fwd p.1 hee
    obtain rfl : e2 = e' := nodup_key hml.nd' he2 hel.1 (by rw [hk2, hek])
    have hchk := hall p (hperm.mem_iff.1 (by simp [hpr]))
    unfold itemU at hchk
    split at hchk
    case h_2 => cases hchk
    · rename_i Tm Hm nxm hhd
      rw [tsK_eq] at hhd
      cases hvq : veq 65536 (gv Tm L.ti) (gv L.Tp L.ti) with
      | false => rw [hvq] at hchk; cases hchk
      | true =>
      rw [hvq] at hchk
      simp only [cond_true] at hchk
      rw [tsK_eq] at hchk
      have htim : gv Tm L.ti = .pointer (some ⟨it, 0, none⟩) := by rw [veq_eq hvq, hti]
      split at hchk
      case h_2 => cases hchk
      · rename_i T1 H1 nx1 hmd
        rw [Bool.cond_eq_ite] at hchk
        split at hchk
        case isFalse => cases hchk
        rename_i hcs
        simp only [Bool.and_eq_true] at hcs
        obtain ⟨hMD, hokT, hokH, hkk, hlk, hlv⟩ := hcs
        have hMD := veq_eq hMD
        have hp2 : p.2 = ⟨ev T1 L.K1, ev T1 L.V1, unb⟩ := (Option.some.inj hchk).symm
        obtain ⟨hwm, hokh⟩ := headM_sound (blk := .block bid (.seq (.region id2 ops2 false) (.region id3 ops3 false))) hm hn hcall hops hl hcc hhd (WF_ts d L.Tp L.q _ hwT)
        obtain ⟨T2, H2, nx2, hmd2, hmd3⟩ := mid2_inv hmd
        obtain ⟨_, hw2, hok⟩ := midM_sound (pre := [o1]) (suf := []) hn hcall (by rw [hops2]; simp) hl2 hmd2 (WF_ts d Tm L.q2 _ hwm)
        obtain ⟨_, hw3, hok3⟩ := midM_sound (pre := []) (suf := [oU]) hn hcall (by rw [hops3]; rfl) hl3 hmd3 hw2
        -- the iterator's step
        have hwh : w1.heap = w.heap := by rcases hw1 with rfl | rfl <;> rfl
        have hlt : tt.blk < w1.heap.size := by rw [hwh]; exact (Array.getElem?_eq_some_iff.1 hwt).1
        have hne : tr.blk ≠ tt.blk := fun e => by rw [e, hwt] at hwr; cases hwr
        generalize hW : setBlock w1 tt.blk (.mapIter (some tr.blk) c' (sn.push e2.born) c') = W at hrun
        have hWt : W.heap[tt.blk]? = some (.mapIter (some tr.blk) c' (sn.push e2.born) c') := by rw [← hW]; exact setBlock_at hlt
        have hWo : ∀ k, k ≠ tt.blk → W.heap[k]? = w.heap[k]? := fun k hk => by rw [← hW, setBlock_ne hk, hwh]
        have hWs : W.heap.size = w.heap.size := by rw [← hW]; simp [setBlock, hwh]
        have hst1 : Stp F (HF H0 it r since L.D c) nx w F (HF H0 it r since L.D c) nx W := by
          have := Stp.updateG (w' := W) (new := .iter (some r) since (some unb)) hr hitn (by rw [hHF, if_neg (Ne.symm hDit), if_pos rfl]) rfl rfl hFt (by rw [← hW]; rcases hw1 with rfl | rfl <;> rfl) (by rw [← hW]; rcases hw1 with rfl | rfl <;> rfl) (by rw [← hW]; rcases hw1 with rfl | rfl <;> rfl) (by omega) (fun k hk _ => hWo k hk) ?_
          · refine this.wk fun i b hb => .inl ?_
            rw [getH_hs]
            by_cases e : i = it
            · rw [if_pos e]; rw [hHF, e, if_neg (Ne.symm hDit), if_pos rfl] at hb; exact hb
            · rw [if_neg e]; exact hb
          · have hbr := hr.hb.get hFt (by rw [hHF, if_neg (Ne.symm hDit), if_pos rfl])
            obtain ⟨q0, m', si, sn', last, q1, q2, ⟨u, q3, q4⟩, q5⟩ := hbr
            rw [hwt] at q1
            simp only [Option.some.injEq, Obj.mapIter.injEq] at q1
            obtain ⟨_, rfl, _, rfl⟩ := q1
            exact ⟨q0, _, _, _, _, hWt, q2, ⟨tr, hFr, rfl⟩, .inl rfl⟩
        -- the round, on the blocks that it knows
        have hsubF : ∀ c i b, getH L.Hs i = some b → getH (HF H0 it r since L.D c) i = some b := by
          intro c i b hb
          obtain ⟨⟨k1, _, k3⟩, k2, _⟩ := hsub i b hb
          rw [hHF, if_neg k3, if_neg k1]; exact k2
        have hrS : HR F L.Hs nx W := hst1.hr.sub (hsubF c)
        have hnot : ∀ t0 i0, F i0 = some t0 → i0 < nx → (∃ b0, getH (HF H0 it r since L.D c) i0 = some b0 ∧ b0.isRom = false) → getH L.Hs i0 = none → ¬ Own F L.Hs nx t0.blk := by
          rintro t0 i0 hF0 hi0 ⟨b0, hb0, hrom⟩ hn0 ⟨j, k, u, hj, hgj, hrk, hFj, e⟩
          rcases hst1.hr.inj j i0 k b0 u t0 hj hi0 (hsubF c j k hgj) hb0 hFj hF0 e with h | h
          · subst h; rw [hn0] at hgj; cases hgj
          · rw [hrk] at h; cases h.1
        have hnit : getH L.Hs it = none := by
          cases hg : getH L.Hs it with
          | none => rfl
          | some b => exact absurd rfl (hsub it b hg).1.1
        have hnr : getH L.Hs r = none := by
          cases hg : getH L.Hs r with
          | none => rfl
          | some b => exact absurd rfl (hsub r b hg).1.2.1
        have hnD : getH L.Hs L.D = none := by
          cases hg : getH L.Hs L.D with
          | none => rfl
          | some b => exact absurd rfl (hsub L.D b hg).1.2.2
        have hrF : getH (HF H0 it r since L.D c) r = some (.map es since) := by rw [hHF, if_neg (Ne.symm hDr), if_neg hrit]; exact hr0
        have hrn : r < nx := hr.low hrF
        have hno1 := hnot tt it hFt hitn ⟨_, by rw [hHF, if_neg (Ne.symm hDit), if_pos rfl], rfl⟩ hnit
        have hno2 := hnot tr r hFr hrn ⟨_, hrF, rfl⟩ hnr
        have ht1 : TR d F (ts d L.Tp L.q (tupE p.1)) n (a.put (some L.q) (.tuple #[.bool true, e2.key, e2.val])).tmps :=
          ht.put hqn (VR.tuple' (.cons (.bool true) (.cons (by rw [hk2]; exact flat1_refl F _ hfl) (.cons hvr .nil))))
        obtain ⟨cc, rr, hcc, hcp, hrp⟩ := subs_pick hcr p hpr
        have hmm : rr.length + 1 = m := by have := hrp.length_eq; simp at this; omega
        refine wp_of_value (v := .tuple #[.bool true, e2.key, e2.val]) (w' := W) ?_ ?_
        · simp only [execOp, ho0, hev, Sem.run_bind, hrun, Result.andThen_ok, Sem.run_pure]
        · rw [hd0]
          refine hokh F _ W (Exit.then (Code.rounds P _ Q m) Q) ht1 hrS fun Fm am wm htm hstm hdm => ?_
          have htl : tt.blk < W.heap.size := by rw [hWs, ← hwh]; exact hlt
          have hrl : tr.blk < W.heap.size := by rw [hWs]; exact (Array.getElem?_eq_some_iff.1 hwr).1
          have hrange2 : List.range ops2.size = 0 :: List.range' 1 tl2.length := by
            have : ops2.size = tl2.length + 1 := by have := congrArg List.length hops2; simpa using this
            rw [this, List.range_eq_range', List.range'_succ]
          have hio2 : ops2[0]? = some o1 := by rw [← Array.getElem?_toList, hops2]; rfl
          have hwmt : wm.heap[tt.blk]? = some (.mapIter (some tr.blk) c' (sn.push e2.born) c') := (hstm.frame _ htl hno1).trans hWt
          have hwmr : wm.heap[tr.blk]? = some (.map es' c') := (hstm.frame _ hrl hno2).trans ((hWo _ hne).trans hwr)
          have hrune := run_entry_at (P := P) wm tt.blk tr.blk c' sn es' c' e2 hwmt hwmr hel.1 hst.2.1
          have hevm : am.eval (.tmp L.ti) = .pointer (some ⟨tt.blk, 0, none⟩) := by
            have h1 := htm.get L.ti htn
            have e : (tg Tm L.ti).getD undef = gv Tm L.ti := by rw [tg_gv]; rfl
            rw [e, htim] at h1
            obtain ⟨_, t, hF, he⟩ := h1.ptr_inv
            rw [hstm.ext it hitn, hFt] at hF; cases hF
            rw [hbt] at he
            exact he
          show (Code.block bid (.seq (.region id2 ops2 false) (.region id3 ops3 false))).wp P _ am wm
          refine wp_block (wp_seq (wp_region ?_))
          rw [hrange2, wpOps_cons]
          unfold wpOp
          simp only [hio2]
          rw [if_pos (by simp [Region.wanted, hg1])]
          refine .inl ?_
          refine wp_of_value (v := .tuple #[e2.key, e2.val]) (w' := wm) ?_ ?_
          · simp only [execOp, ho1, hevm, Sem.run_bind, hrune, Result.andThen_ok, Sem.run_pure]
          rw [hd1]
          have htm1 : TR d Fm (ts d Tm L.q2 (pairE p.1)) n (am.put (some L.q2) (.tuple #[e2.key, e2.val])).tmps :=
            htm.put hqn2 (VR.tuple' (.cons (by rw [hk2]; exact flat1_refl Fm _ hfl) (.cons (hvr.mono (hstm.fle hrS)) .nil)))
          have key1 := fun R hk => hok Fm (am.put (some L.q2) (.tuple #[e2.key, e2.val])) wm R [] htm1 hstm.hr hk
          rw [List.append_nil] at key1
          refine key1 _ fun Fa aa wa hta hsta hda => ?_
          simp only [wpOps]
          show (Code.region id3 ops3 false).wp P _ aa wa
          refine wp_region ?_
          have hrange3 : List.range ops3.size = List.range' 0 mid.length ++ [mid.length] := by
            have : ops3.size = mid.length + 1 := by have := congrArg List.length hops3; simpa using this
            rw [this, List.range_eq_range', ← List.range'_append_1, Nat.zero_add]; rfl
          rw [hrange3]
          refine hok3 Fa aa wa _ [mid.length] hta hsta.hr fun F1 a2 w2 ht2 hst2b hd2b => ?_
          have hst2' := hsta.trans hst2b
          have hd2' := hd2b.trans hda
          rw [wpOps_cons]
          have hst2 := hstm.trans hst2'
          -- what is kept of it
          have hDn : L.D < nx := hr.low (i := L.D) (b := .map (c.map (·.2)) c.length) (by rw [hHF, if_pos rfl])
          have hgc : Stp F L.Hs nx W (unF nx _root_.id F1) L.Hs nx w2 := by
            refine hst2.gc (Nat.le_refl _) fun i b2 hb2 => ?_
            obtain ⟨⟨_, _, e1⟩, k2, k3⟩ := hsub i b2 hb2
            obtain ⟨k4, k5⟩ := okHm_inv hokH i k3 e1 b2 hb2
            exact ⟨hrS.low hb2, k5, b2, k4, Wk.refl (lowB_rom k5)⟩
          have hbes : Stp F (HF H0 it r since L.D c) nx W (unF nx _root_.id F1) (HF H0 it r since L.D c) nx w2 := by
            refine Stp.beside hst1.hr (fun i b _ hb => hsubF c i b hb) hgc fun i => ?_
            cases hg : getH L.Hs i with
            | some b => rw [hsubF c i b hg]; simp
            | none =>
              by_cases hi : i < nx
              · cases hg0 : getH (HF H0 it r since L.D c) i <;> simp [hi]
              · simp only [hi, false_and, if_false]
                exact hst1.hr.top i (by omega)
          -- the map's update
          have hgD : getH (HF H0 it r since L.D c) L.D = some (.map (c.map (·.2)) c.length) := by rw [hHF, if_pos rfl]
          generalize hHd : hs Heap.leaf L.D (some (.map (c.map (·.2)) c.length)) = Hd
          have hHdi : ∀ i, getH Hd i = if i = L.D then some (.map (c.map (·.2)) c.length) else none := fun i => by rw [← hHd, getH_hs, getH_leaf]
          have hrD : HR (unF nx _root_.id F1) Hd nx w2 := hbes.hr.sub fun i b hb => by
            rw [hHdi] at hb
            by_cases e1 : i = L.D
            · rw [if_pos e1] at hb; rw [e1, hgD]; exact hb
            · rw [if_neg e1] at hb; cases hb
          have hkr2 := (hperm.pairwise_iff (fun h => KR.symm h)).2 hkr
          have hno : Instr.findNow L.kd (ev T1 L.K1) (c.map (·.2)) 0 = some none := findNow_no hkk 0 fun e he => by
            obtain ⟨y, hy, rfl⟩ := List.mem_map.1 he
            have := (List.pairwise_append.1 hkr2).2.2 y hy p hpr
            rw [KR, hp2] at this
            exact this
          have hlc : c.length ≤ 1000 := by have := hperm.length_eq; simp at this; omega
          have hup := upd_one (V1 := L.V1) (call := call) (nx := nx) hMD (by rw [hHdi, if_pos rfl]) hkk hno (by omega)
          have hevU : ∃ u, EV P d n oU T1 Hd nx u (hs Hd L.D (some (.map (c.map (·.2) ++ [⟨ev T1 L.K1, ev T1 L.V1, c.length⟩]) (c.length + 1)))) nx := by
            rcases upd_sound (d := d) hoU (Or.inl rfl) hM hK hV hu hku call (none : Option Out) (fun _ H nx => some ⟨.n, T1, H, nx⟩) with e | ⟨u, H', nx', e, hE⟩
            · rw [hup] at e; cases e
            · rw [hup] at e; cases e
              exact ⟨u, hE⟩
          obtain ⟨u, hevU⟩ := hevU
          have hioU : ops3[mid.length]? = some oU := by rw [← Array.getElem?_toList, hops3]; simp
          unfold wpOp
          simp only [hioU]
          rw [if_pos (by simp [Region.wanted, hgU])]
          refine .inl (hevU _ a2 w2 _ _ ?_ hrD fun v' F4 w3 hv hstU => ?_)
          · intro x hx y hy
            rw [hoU] at hx
            have hx : x = m0 ∨ x = k0 ∨ x = v0 := by simpa [Op.operands] using hx
            rcases hx with rfl | rfl | rfl
            · rw [hM] at hy; cases hy
              exact VR.low (k := 1) (by rw [hMD]; show Nat.blt _ _ = true; rw [Nat.blt_eq]; exact hDn) (ht2.evX hM)
            · rw [hK] at hy; cases hy; exact VR.low hlk (ht2.evX hK)
            · rw [hV] at hy; cases hy; exact VR.low hlv (ht2.evX hV)
          rw [hdU]
          show wpOps P ops3 _ [] a2 w3
          simp only [wpOps]
          show Code.rounds P _ Q m a2 w3
          have hlen2 : cc.length = c.length + 1 := by have := hcp.length_eq; simpa using this
          have hstU2 : Stp (unF nx _root_.id F1) Hd nx w2 F4 (hs Heap.leaf L.D (some (.map (cc.map (·.2)) cc.length))) nx w3 := by
            refine hstU.wk fun i b2 hb2 => ?_
            rw [getH_hs, getH_leaf] at hb2
            by_cases e1 : i = L.D
            · rw [if_pos e1] at hb2; cases hb2
              refine .inr ⟨_, by rw [getH_hs, if_pos e1], ?_⟩
              rw [hlen2]
              refine Wk.map ?_ fun f hf => ?_
              · have h1 := (hcp.map (fun q => q.2)).map (·.key)
                refine h1.trans ?_
                simp only [List.map_cons, List.map_append, List.map_nil, hp2]
                exact List.perm_append_singleton _ _ |>.symm
              · obtain ⟨y, hy, rfl⟩ := List.mem_map.1 hf
                rcases List.mem_cons.1 (hcp.mem_iff.1 hy) with rfl | hy
                · exact ⟨⟨ev T1 L.K1, ev T1 L.V1, c.length⟩, by simp, by rw [hp2], by rw [hp2], .inr (by rw [hp2])⟩
                · exact ⟨y.2, by simp only [List.mem_append, List.mem_map]; exact .inl ⟨y, hy, rfl⟩, rfl, rfl, .inl rfl⟩
            · rw [if_neg e1] at hb2; cases hb2
          have hbes2 : Stp (unF nx _root_.id F1) (HF H0 it r since L.D c) nx w2 F4 (HF H0 it r since L.D cc) nx w3 := by
            refine Stp.beside hbes.hr (fun i b _ hb => ?_) hstU2 fun i => ?_
            · rw [hHdi] at hb
              by_cases e1 : i = L.D
              · rw [if_pos e1] at hb; rw [e1, hgD]; exact hb
              · rw [if_neg e1] at hb; cases hb
            · rw [hHF cc, hHF c, getH_hs, getH_leaf, hHdi]
              by_cases e1 : i = L.D
              · subst e1; simp
              · simp only [if_neg e1, true_and]
                by_cases hi : i < nx
                · simp only [hi, true_and]
                  by_cases e2 : i = it
                  · simp [e2]
                  · simp only [if_neg e2]
                    cases hg0 : getH H0 i <;> simp
                · simp only [hi, false_and, if_false]
                  have := hr.top i (by omega)
                  rw [hHF, if_neg e1] at this
                  exact this
          have hb2 := hbes.trans hbes2
          have hfr : ∀ b, b < W.heap.size → ¬ Own F L.Hs nx b → ¬ Own (unF nx _root_.id F1) Hd nx b → w3.heap[b]? = W.heap[b]? := fun b h1 h2 h3 => by
            rw [hstU.frame b (Nat.lt_of_lt_of_le h1 hst2.size) h3, hst2.frame b h1 h2]
          have hnD2 : ∀ t0 i0, F i0 = some t0 → i0 < nx → i0 ≠ L.D → (∃ b0, getH (HF H0 it r since L.D c) i0 = some b0 ∧ b0.isRom = false) → ¬ Own (unF nx _root_.id F1) Hd nx t0.blk := by
            rintro t0 i0 hF0 hi0 hne0 ⟨b0, hb0, hrom⟩ ⟨j, k, u, hj, hgj, hrk, hFj, e⟩
            rw [hHdi] at hgj
            by_cases e1 : j = L.D
            · subst e1
              rw [if_pos rfl] at hgj; cases hgj
              rcases hbes.hr.inj _ i0 _ b0 u t0 hj hi0 hgD hb0 hFj (by rw [hbes.ext i0 hi0]; exact hF0) e with h | h
              · exact hne0 h.symm
              · cases h.1
            · rw [if_neg e1] at hgj; cases hgj
          have hno1' := hnD2 tt it hFt hitn (Ne.symm hDit) ⟨_, by rw [hHF, if_neg (Ne.symm hDit), if_pos rfl], rfl⟩
          have hno2' := hnD2 tr r hFr hrn (Ne.symm hDr) ⟨_, hrF, rfl⟩
          have key := ih rr.length (by omega) cc rr hcc rfl F4 a2 w3 Q es' c' (sn.push e2.born) tt tr ((ht2.ok hokT).1.mono (hstU.fle hrD)) hb2.hr (by rw [hb2.ext it hitn]; exact hFt) hbt (by rw [hb2.ext r hrn]; exact hFr)
            ((hfr _ htl hno1 hno1').trans hWt) ((hfr _ hrl hno2 hno2').trans ((hWo _ hne).trans hwr)) (hml.mono (hb2.fle hst1.hr)) hst ?_ ?_
          · rw [hmm] at key; exact key
          · intro x hx
            rw [Array.contains_push]
            simp only [Bool.or_eq_true, beq_iff_eq]
            constructor
            · rintro (h | h)
              · obtain ⟨y, hy, hyk⟩ := (hsn x hx).1 h
                exact ⟨y, hcp.mem_iff.2 (by simp [hy]), hyk⟩
              · have : x = e2 := nodup_born hst.2.1 hx hel.1 h
                subst this
                exact ⟨p, hcp.mem_iff.2 (by simp), hek⟩
            · rintro ⟨y, hy, hyk⟩
              rcases List.mem_cons.1 (hcp.mem_iff.1 hy) with rfl | hy
              · have : x = e2 := nodup_key hml.nd' hx hel.1 (by rw [← hyk, hek])
                subst this
                exact .inr rfl
              · exact .inl ((hsn x hx).2 ⟨y, hy, hyk⟩)
          · intro F' a' w' ht' hst' hd'
            exact hpost F' a' w' ht' (hst1.trans (hb2.trans hst')) (hd'.trans (hd2'.trans (by simpa [Act.put] using hdm)))

theorem mapLoop_sound (hm : P.follows .mixedOrders = true) (hn : n ≤ 2 ^ d) {call : OCall} (hcall : CallOK P call) {id : Nat} {ops : Array Oper} {o0 : Oper} {tl : List Oper} (hops : ops.toList = o0 :: tl) {l : List S} (hl : compSs P n ops.toList tl = some l)
    {pre : Code} {cc : C} (hcc : compC P n pre = some cc) {bid id2 : Nat} {ops2 : Array Oper} {o1 oU : Oper} {tl2 mid : List Oper} (hops2 : ops2.toList = o1 :: tl2) {l2 : List S} (hl2 : compSs P n ops2.toList tl2 = some l2)
    {id3 : Nat} {ops3 : Array Oper} (hops3 : ops3.toList = mid ++ [oU]) {l3 : List S} (hl3 : compSs P n ops3.toList mid = some l3) {t0 : TypeId} {m0 k0 v0 : Operand} {kt et : TypeId} {kd : TypeDesc} {M K1 V1 : X} (hgU : oU.guard = none) (hdU : oU.dst = none) (hoU : oU.op = .mapUpdate t0 m0 k0 v0) (hM : compX n m0 = some M) (hK : compX n k0 = some K1) (hV : compX n v0 = some V1) (hu : P.underlying t0 = some (.map kt et)) (hku : P.underlying kt = some kd) {q ti q2 : Nat} (hg0 : o0.guard = none) (hd0 : o0.dst = some q) (ho0 : o0.op = .next (.tmp ti) false) (hqn : q < n) (htn : ti < n) (hg1 : o1.guard = none) (hd1 : o1.dst = some q2) (ho1 : o1.op = .entry (.tmp ti)) (hqn2 : q2 < n) {dead : List Nat} {T : Ev} {H : Heap} {nx : Nat} {o : Ox} {T' : Ev} {H' : Heap} {nx' : Nat}
    (h : mapLoop P d n call q ti l cc q2 l2 l3 kd M K1 V1 dead T H nx = some ⟨o, T', H', nx'⟩) (hw : WF d T) : WF d T' ∧ CodeOK P d n (.loop (.seq (.region id ops false) (.seq pre (.block bid (.seq (.region id2 ops2 false) (.region id3 ops3 false)))))) T H nx o T' H' nx' := by
  unfold mapLoop at h
  split at h
  · rename_i it D hti htD
    split at h
    · rename_i r since hit hD
      split at h
      · rename_i es clock hr0
        generalize hTp : poisonL d dead T = Tp at h
        generalize hns : ((namesT T n).filter fun i => !(Nat.beq i it) && (!(Nat.beq i r) && !(Nat.beq i D))).eraseDups = ns at h
        cases hcd : (Nat.beq clock since && !(Nat.beq since 1000000000000) && !(Nat.beq D r) && !(Nat.beq D it) && Nat.ble 2 es.length && Nat.ble es.length 1000) with
        | false => rw [hcd] at h; cases h
        | true =>
          rw [hcd] at h
          simp only [cond_true] at h
          split at h
          · rename_i its hits
            cases hch : (okK kd its && (okTm nx Tp T n && veq 65536 (gv Tp ti) (gv T ti))) with
            | false => rw [hch] at h; cases h
            | true =>
              rw [hch] at h
              simp only [cond_true] at h
              simp only [Bool.and_eq_true, Bool.not_eq_true'] at hcd hch
              obtain ⟨⟨⟨⟨⟨b1, b2⟩, b3⟩, b4⟩, _⟩, b6⟩ := hcd
              have b1 := Nat.eq_of_beq_eq_true b1
              subst b1
              have nb : ∀ {x y : Nat}, Nat.beq x y = false → x ≠ y := fun h e => by subst e; rw [Nat.beq_refl] at h; cases h
              have hDr := nb b3
              have hDit := nb b4
              have hcu : ¬ clock = unb := nb b2
              have hrit : r ≠ it := fun e => by rw [e, hit] at hr0; cases hr0
              have hwTp : WF d Tp := hw
              have hsub : ∀ i b, getH (restH H ns) i = some b → (i ≠ it ∧ i ≠ r ∧ i ≠ D) ∧ getH H i = some b ∧ i ∈ ns := by
                intro i b hb
                obtain ⟨k1, k2⟩ := restH_sub hb
                have k3 := k2
                rw [← hns, List.mem_eraseDups, List.mem_filter] at k3
                simp only [Bool.and_eq_true, Bool.not_eq_true'] at k3
                exact ⟨⟨nb k3.2.1, nb k3.2.2.1, nb k3.2.2.2⟩, k1, k2⟩
              have hend := h
              have hti2 : gv Tp ti = .pointer (some ⟨it, 0, none⟩) := by rw [veq_eq hch.2.2, hti]
              refine ⟨hw, fun F a w Q ht hr hk => ?_⟩
              obtain ⟨tt, hFt, hb0, m', si, sn, last, hw1, hsi, ⟨u, hFu, hm'⟩, hsn, hla⟩ := hr.blk it _ (hr.low hit) hit
              obtain ⟨tr, hFr, _, es', c', hw2, hcl, hml, hst⟩ := hr.blk r _ (hr.low hr0) hr0
              rw [hFr] at hFu; cases hFu
              obtain rfl := hsi.resolve_right hcu
              obtain rfl := hcl.resolve_right hcu
              subst hm'; subst hsn; subst hla
              have hHF : ∀ i, getH (HF H it r last D []) i = if i = D then some (.map [] 0) else if i = it then some (.iter (some r) last (some unb)) else getH H i := fun i => by
                unfold HF; rw [getH_hs, getH_hs]; rfl
              have hst0 : Stp F H nx w F (HF H it r last D []) nx w := by
                refine (Stp.refl hr).wk fun i b2 hb2 => ?_
                rw [hHF] at hb2
                by_cases e1 : i = D
                · rw [if_pos e1] at hb2; cases hb2; exact .inl (by rw [e1]; exact hD)
                · rw [if_neg e1] at hb2
                  by_cases e2 : i = it
                  · rw [if_pos e2] at hb2; cases hb2
                    refine .inr ⟨.iter (some r) last none, by rw [e2]; exact hit, ⟨rfl, rfl⟩, fun F t w h => ?_⟩
                    obtain ⟨g0, m', si, sn, last', g1, g2, g3, g4⟩ := h
                    exact ⟨g0, m', si, sn, last', g1, g2, g3, .inl rfl⟩
                  · rw [if_neg e2] at hb2; exact .inl hb2
              refine wp_loop_rounds (its.length + 1) ?_
              obtain ⟨hit1, hit2⟩ := itemsU_inv hits
              exact loop_main (L := ⟨q, ti, l, cc, q2, l2, l3, kd, M, K1, V1, Tp, restH H ns, D, ns⟩) hm hn hcall hops hl hcc hops2 hl2 hops3 hl3 hgU hdU hoU hM hK hV hu hku hg0 hd0 ho0 hqn htn hg1 hd1 ho1 hqn2 hit2 (okK_inv hch.1) (by have := congrArg List.length hit1; simp at this; rw [this]; exact Nat.le_of_ble_eq_true b6) hw hit1 hDit hDr hit hr0 hrit hsub hti2 hend its.length [] its (subs_nil its) rfl F a w Q es' last #[] tt _
                (ht.ok hch.2.1).2 hst0.hr hFt hb0 hFr hw1 hw2 hml hst (fun x _ => by simp) fun F' a' w' ht' hst' hd' => hk F' a' w' ht' (hst0.trans hst') hd'
          · cases h
      · cases h
    · cases h
  · cases h

/-! Functions that hold such loops. -/
def dstsO : List Oper → List Nat
  | [] => []
  | o :: l => match o.dst with
    | some t => t :: dstsO l
    | none => dstsO l
def dstsC : Code → List Nat
  | .region _ ops _ => dstsO ops.toList
  | .seq a b => dstsC a ++ dstsC b
  | .cond _ a b => dstsC a ++ dstsC b
  | .block _ a => dstsC a
  | .loop a => dstsC a
  | _ => []
/-- The parts of a round. -/
noncomputable def tryLoop (P : Program) (d n : Nat) (call : OCall) (a : Code) (T : Ev) (H : Heap) (nx : Nat) : Option Out :=
  match a with
  | .seq (.region _ ops false) (.seq pre (.block _ (.seq (.region _ ops2 false) (.region _ ops3 false)))) => (match ops.toList, ops2.toList with
    | o0 :: tl, o1 :: tl2 => (match o0.guard, o0.dst, o0.op, o1.guard, o1.dst, o1.op, lastO ops3.toList with
      | none, some q, .next (.tmp ti) false, none, some q2, .entry (.tmp ti2), some (mid, oU) => (match oU.guard, oU.dst, oU.op with
        | none, none, .mapUpdate t m key v => cond (Nat.beq ti ti2 && Nat.blt q n && Nat.blt ti n && Nat.blt q2 n) (match compSs P n ops.toList tl, compC P n pre, compSs P n ops2.toList tl2, compSs P n ops3.toList mid, compX n m, compX n key, compX n v, P.underlying t with
          | some l, some cc, some l2, some l3, some M, some K1, some V1, some (.map kt _) => (match P.underlying kt with
            | some kd => mapLoop P d n call q ti l cc q2 l2 l3 kd M K1 V1 (dstsC (.seq (.region 0 ops false) (.seq pre (.seq (.region 0 ops2 false) (.region 0 ops3 false))))) T H nx
            | none => none)
          | _, _, _, _, _, _, _, _ => none) none
        | _, _, _ => none)
      | _, _, _, _, _, _, _ => none)
    | _, _ => none)
  | _ => none
theorem tryLoop_sound (hm : P.follows .mixedOrders = true) (hn : n ≤ 2 ^ d) {call : OCall} (hcall : CallOK P call) {a : Code} {T : Ev} {H : Heap} {nx : Nat} {o : Ox} {T' : Ev} {H' : Heap} {nx' : Nat}
    (h : tryLoop P d n call a T H nx = some ⟨o, T', H', nx'⟩) (hw : WF d T) : WF d T' ∧ CodeOK P d n (.loop a) T H nx o T' H' nx' := by
  unfold tryLoop at h
  split at h
  · rename_i id ops pre bid id2 ops2 id3 ops3
    split at h
    · rename_i o0 tl o1 tl2 hops hops2
      split at h
      · rename_i q ti q2 ti2 mid oU hg hd ho hg1 hd1 ho1 hla
        split at h
        · rename_i t m key v hgU hdU hoU
          cases hb : (Nat.beq ti ti2 && Nat.blt q n && Nat.blt ti n && Nat.blt q2 n) with
          | false => rw [hb] at h; cases h
          | true =>
            rw [hb] at h
            simp only [cond_true] at h
            simp only [Bool.and_eq_true, Nat.blt_eq] at hb
            obtain ⟨⟨⟨b1, b2⟩, b3⟩, b4⟩ := hb
            have b1 := Nat.eq_of_beq_eq_true b1
            subst b1
            split at h
            · rename_i l cc l2 l3 M K1 V1 kt et hl hcc hl2 hl3 hM hK hV hu
              split at h
              · rename_i kd hku
                exact mapLoop_sound hm hn hcall hops hl hcc hops2 hl2 (lastO_app hla) hl3 hgU hdU hoU hM hK hV hu hku hg hd ho b2 b3 hg1 hd1 ho1 b4 h hw
              · cases h
            · cases h
        · cases h
      · cases h
    · cases h
  · cases h
noncomputable def loopM (f : Ev → Heap → Nat → Option Out) (m : Nat) : Ev → Heap → Nat → Option Out :=
  @Nat.rec (fun _ => Ev → Heap → Nat → Option Out) (fun _ _ _ => none) (fun _ ih T H nx => match f T H nx with
    | some ⟨.n, T, H, nx⟩ => ih T H nx
    | r => r) m
noncomputable def leafM (P : Program) (d n : Nat) (call : OCall) (c : Code) (T : Ev) (H : Heap) (nx : Nat) : Option Out :=
  match compC P n c with
  | some c => runC c P d call T H nx
  | none => none
noncomputable def execM (P : Program) (d n : Nat) (call : OCall) : Code → Ev → Heap → Nat → Option Out
  | .seq a b => fun T H nx => match execM P d n call a T H nx with
    | some ⟨.n, T, H, nx⟩ => execM P d n call b T H nx
    | r => r
  | .block id a => fun T H nx => match execM P d n call a T H nx with
    | some ⟨.x id', T, H, nx⟩ => cond (Nat.beq id' id) (some ⟨.n, T, H, nx⟩) (some ⟨.x id', T, H, nx⟩)
    | r => r
  | .cond v a b => fun T H nx => match compX n v with
    | some x => (match ev T x with
      | .bool true => execM P d n call a T H nx
      | .bool false => execM P d n call b T H nx
      | _ => none)
    | none => none
  | .loop a => fun T H nx => match tryLoop P d n call a T H nx with
    | some r => some r
    | none => loopM (execM P d n call a) 10000 T H nx
  | c => leafM P d n call c
theorem execM_sound (hm : P.follows .mixedOrders = true) (hn : n ≤ 2 ^ d) {call : OCall} (hcall : CallOK P call) : ∀ (c : Code) {T : Ev} {H : Heap} {nx : Nat} {o : Ox} {T' : Ev} {H' : Heap} {nx' : Nat}, execM P d n call c T H nx = some ⟨o, T', H', nx'⟩ → WF d T → WF d T' ∧ CodeOK P d n c T H nx o T' H' nx' := by
  have leaf : ∀ (c : Code) {T : Ev} {H : Heap} {nx : Nat} {o : Ox} {T' : Ev} {H' : Heap} {nx' : Nat}, leafM P d n call c T H nx = some ⟨o, T', H', nx'⟩ → WF d T → WF d T' ∧ CodeOK P d n c T H nx o T' H' nx' := by
    intro c T H nx o T' H' nx' h hw
    unfold leafM at h
    split at h
    · rename_i c' hc; exact runC_sound hm hn hcall hc h hw
    · cases h
  intro c
  induction c with
  | seq a b iha ihb =>
    intro T H nx o T' H' nx' h hw
    rw [execM] at h
    dsimp only at h
    split at h
    · rename_i T1 H1 nx1 h1
      obtain ⟨w1, k1⟩ := iha h1 hw
      obtain ⟨w2, k2⟩ := ihb h w1
      exact ⟨w2, fun F ac w Q ht hr hk => wp_seq (k1 F ac w _ ht hr fun F' a' w' ht' hst hdf => k2 F' a' w' Q ht' hst.hr fun F2 a2 w2 ht2 hst2 hdf2 => hk F2 a2 w2 ht2 (hst.trans hst2) (hdf2.trans hdf))⟩
    · rename_i hne
      obtain ⟨w1, k1⟩ := iha h hw
      refine ⟨w1, fun F ac w Q ht hr hk => wp_seq (k1 F ac w _ ht hr fun F' a' w' ht' hst hdf => ?_)⟩
      have := hk F' a' w' ht' hst hdf
      cases o with
      | n => exact absurd h (hne _ _ _)
      | x id => exact this
      | r => exact this
  | block id a iha =>
    intro T H nx o T' H' nx' h hw
    rw [execM] at h
    dsimp only at h
    split at h
    · rename_i id' T1 H1 nx1 h1
      obtain ⟨w1, k1⟩ := iha h1 hw
      cases hb : Nat.beq id' id with
      | true =>
        rw [hb] at h; cases h
        have := Nat.eq_of_beq_eq_true hb
        subst this
        exact ⟨w1, fun F ac w Q ht hr hk => wp_block (k1 F ac w _ ht hr fun F' a' w' ht' hst hdf => by simp only [Ox.exit, Exit.inBlock, if_true]; exact hk F' a' w' ht' hst hdf)⟩
      | false =>
        rw [hb] at h; cases h
        have hne : ¬ id' = id := fun e => by subst e; rw [Nat.beq_refl] at hb; cases hb
        exact ⟨w1, fun F ac w Q ht hr hk => wp_block (k1 F ac w _ ht hr fun F' a' w' ht' hst hdf => by simp only [Ox.exit, Exit.inBlock, if_neg hne]; exact hk F' a' w' ht' hst hdf)⟩
    · rename_i hne
      obtain ⟨w1, k1⟩ := iha h hw
      refine ⟨w1, fun F ac w Q ht hr hk => wp_block (k1 F ac w _ ht hr fun F' a' w' ht' hst hdf => ?_)⟩
      have := hk F' a' w' ht' hst hdf
      cases o with
      | n => exact this
      | x id => exact absurd h (hne _ _ _ _)
      | r => exact this
  | cond v a b iha ihb =>
    intro T H nx o T' H' nx' h hw
    rw [execM] at h
    dsimp only at h
    split at h
    · rename_i x hx
      split at h
      · rename_i hv
        obtain ⟨w1, k1⟩ := iha h hw
        refine ⟨w1, fun F ac w Q ht hr hk => wp_cond_true ?_ (k1 F ac w Q ht hr hk)⟩
        have := ht.evX hx; rw [hv] at this; exact this.bool_inv
      · rename_i hv
        obtain ⟨w1, k1⟩ := ihb h hw
        refine ⟨w1, fun F ac w Q ht hr hk => wp_cond_false ?_ (k1 F ac w Q ht hr hk)⟩
        have := ht.evX hx; rw [hv] at this; exact this.bool_inv
      · cases h
    · cases h
  | loop a iha =>
    intro T H nx o T' H' nx' h hw
    rw [execM] at h
    dsimp only at h
    split at h
    · rename_i r hr
      cases h
      exact tryLoop_sound hm hn hcall hr hw
    · have rounds : ∀ (m : Nat) (T : Ev) (H : Heap) (nx : Nat), loopM (execM P d n call a) m T H nx = some ⟨o, T', H', nx'⟩ → WF d T → WF d T' ∧
          ∀ (F : FM) (ac : Act) (w : World) (Q : Exit → Act → World → Prop), TR d F T n ac.tmps → HR F H nx w →
            (∀ F' a' w', TR d F' T' n a'.tmps → Stp F H nx w F' H' nx' w' → a'.defers = ac.defers → Q o.exit a' w') → Code.rounds P a Q m ac w := by
        intro m
        induction m with
        | zero => intro T H nx h; cases h
        | succ m ihm =>
          intro T H nx h hw
          have e : loopM (execM P d n call a) (m + 1) T H nx = match execM P d n call a T H nx with
            | some ⟨.n, T, H, nx⟩ => loopM (execM P d n call a) m T H nx
            | r => r := rfl
          rw [e] at h
          split at h
          · rename_i T1 H1 nx1 h1
            obtain ⟨w1, k1⟩ := iha h1 hw
            obtain ⟨w2, k2⟩ := ihm T1 H1 nx1 h w1
            refine ⟨w2, fun F ac w Q ht hr hk => ?_⟩
            rw [rounds_succ]
            exact k1 F ac w _ ht hr fun F' a' w' ht' hst hdf => k2 F' a' w' Q ht' hst.hr fun F2 a2 w2 ht2 hst2 hdf2 => hk F2 a2 w2 ht2 (hst.trans hst2) (hdf2.trans hdf)
          · rename_i hne
            obtain ⟨w1, k1⟩ := iha h hw
            refine ⟨w1, fun F ac w Q ht hr hk => ?_⟩
            rw [rounds_succ]
            refine k1 F ac w _ ht hr fun F' a' w' ht' hst hdf => ?_
            have := hk F' a' w' ht' hst hdf
            cases o with
            | n => exact absurd h (hne _ _ _)
            | x id => exact this
            | r => exact this
      obtain ⟨w1, k1⟩ := rounds 10000 T H nx h hw
      exact ⟨w1, fun F ac w Q ht hr hk => wp_loop_rounds 10000 (k1 F ac w Q ht hr hk)⟩
  | _ => intro T H nx o T' H' nx' h hw; rw [execM] at h <;> first | exact leaf _ h hw | contradiction | (intros; contradiction)

/-- A call of such a function. -/
noncomputable def runM (P : Program) (call : OCall) (f : FuncId) (args : List Value) (H : Heap) (nx : Nat) : Option (Value × Heap × Nat) :=
  match nth P.funcs.toList f with
  | some fn => (match fn.body, compR P fn.ntmps fn.results.toList with
    | some c, some res => cond (Nat.ble (Nat.log2 fn.ntmps + 1) 8 && Nat.ble args.length fn.ntmps)
      (match initT (Nat.log2 fn.ntmps + 1) args 0 .leaf fun T => execM P (Nat.log2 fn.ntmps + 1) fn.ntmps call c T H nx with
        | some ⟨.n, T, H, nx⟩ => resK P T H none (fun vs => forceV (tup vs) fun v => some (v, H, nx)) res
        | some ⟨.r, T, H, nx⟩ => resK P T H none (fun vs => forceV (tup vs) fun v => some (v, H, nx)) res
        | _ => none) none
    | _, _ => none)
  | none => none
theorem runM_sound (hm : P.follows .mixedOrders = true) (hNG : NamesOK P) {call : OCall} (hcall : CallOK P call) {f : FuncId} {args : List Value} {H : Heap} {nx : Nat} {v : Value} {H' : Heap} {nx' : Nat}
    (h : runM P call f args H nx = some (v, H', nx')) : CS P f args H nx v H' nx' := by
  unfold runM at h
  rw [nth_eq] at h
  split at h
  · rename_i fn hf
    have hf' : P.funcs[f]? = some fn := by simpa using hf
    split at h
    · rename_i c res hb hres
      cases hcd : (Nat.ble (Nat.log2 fn.ntmps + 1) 8 && Nat.ble args.length fn.ntmps) with
      | false => rw [hcd] at h; cases h
      | true =>
        rw [hcd] at h
        simp only [cond_true] at h
        rw [Bool.and_eq_true] at hcd
        have h8 := Nat.le_of_ble_eq_true hcd.1
        have hl := Nat.le_of_ble_eq_true hcd.2
        have hd : fn.ntmps ≤ 2 ^ (Nat.log2 fn.ntmps + 1) := Nat.le_of_lt Nat.lt_log2_self
        rw [initT_eq] at h
        have wl : WF (Nat.log2 fn.ntmps + 1) (.leaf : Ev) := h8
        have hw := fillT_wf (Nat.log2 fn.ntmps + 1) args 0 .leaf wl
        have fin : ∀ (o : Ox) (T' : Ev) (H1 : Heap) (nx1 : Nat), (o = .n ∨ o = .r) → execM P (Nat.log2 fn.ntmps + 1) fn.ntmps call c (fillT (Nat.log2 fn.ntmps + 1) args 0 .leaf) H nx = some ⟨o, T', H1, nx1⟩ →
            resK P T' H1 none (fun vs => forceV (tup vs) fun v => some (v, H1, nx1)) res = some (v, H', nx') → CS P f args H nx v H' nx' := by
          intro o T' H1 nx1 ho he h
          obtain ⟨_, hok⟩ := execM_sound hm hd hcall c he hw
          rcases resK_sound (d := Nat.log2 fn.ntmps + 1) (T := T') (H := H1) (nx := nx1) none _ res hres (fun vs => forceV (tup vs) fun v => some (v, H1, nx1)) with h2 | ⟨vs, h2, hok2⟩
          · rw [h2] at h; cases h
          · rw [h2, forceV_eq] at h; cases h
            refine ⟨⟨fn, c, hf', hb, hNG f fn hf'⟩, fun F args' w hr hv => ?_⟩
            refine calls_of_wp hf' hb (hok F _ w _ (TR_start hv hd h8 hl) hr fun F' a' w' ht' hst hdf => ?_)
            obtain ⟨vs', h3, h4⟩ := hok2 F' a'.tmps w' ht' hst.hr.hb
            have hpost : a'.defers = [] ∧ ∃ v, (results fn a'.tmps).run P w' = .ok v w' ∧ (∃ v' F', Ending.returned v = .returned v' ∧ VR F' (tup vs) v' ∧ Stp F H nx w F' H' nx' w') :=
              ⟨hdf, tup vs', results_run h3, tup vs', F', rfl, tup_vr h4, hst⟩
            rcases ho with rfl | rfl <;> exact hpost
        split at h
        · rename_i T1 H1 nx1 he; exact fin .n T1 H1 nx1 (.inl rfl) he h
        · rename_i T1 H1 nx1 he; exact fin .r T1 H1 nx1 (.inr rfl) he h
        · cases h
    · cases h
  · cases h
end
end Go.Clo

namespace Go.Clo

abbrev Lit := List (Nat × Blk)
noncomputable def mkH (l : Lit) : Heap := @List.rec (Nat × Blk) (fun _ => Heap) .leaf (fun p _ H => hsK H p.1 (some p.2) id) l
theorem mkH_cons (p : Nat × Blk) (l : Lit) (i : Nat) : getH (mkH (p :: l)) i = if i = p.1 then some p.2 else getH (mkH l) i := by
  show getH (hsK (mkH l) p.1 (some p.2) id) i = _
  rw [hsK_eq]; exact getH_hs _ _ _ _
noncomputable def subLt (H : Heap) : Lit → Bool
  | [] => true
  | p :: l => match getH H p.1 with
    | some b => cond (beqB p.2 b) (subLt H l) false
    | none => false
theorem subLt_ok {H : Heap} : ∀ {l : Lit}, subLt H l = true → ∀ i b, getH (mkH l) i = some b → getH H i = some b
  | [], _, i, b, h => by rw [show mkH [] = Heap.leaf from rfl, getH_leaf] at h; cases h
  | p :: l, h, i, b, hb => by
    rw [subLt] at h
    split at h
    · rename_i b1 h1
      cases hc : beqB p.2 b1 with
      | false => rw [hc] at h; cases h
      | true =>
        rw [hc] at h
        rw [mkH_cons] at hb
        by_cases e : i = p.1
        · rw [if_pos e] at hb; cases hb
          rw [e, h1, beqB_eq hc]
        · rw [if_neg e] at hb
          exact subLt_ok h i b hb
    · cases h
/-- Blocks forgotten at the end. -/
theorem CS.sub {P : Program} {f : FuncId} {args : List Value} {H : Heap} {nx : Nat} {v : Value} {H' H2 : Heap} {nx' : Nat} (h : CS P f args H nx v H' nx') (hs : ∀ i b, getH H2 i = some b → getH H' i = some b) : CS P f args H nx v H2 nx' :=
  ⟨h.1, fun F args' w hr hv => (h.2 F args' w hr hv).mono fun e w' ⟨v', F', he, hvr, hst⟩ => ⟨v', F', he, hvr, hst.wk fun i b hb => .inl (hs i b hb)⟩⟩
/-- The same blocks at the beginning. -/
theorem CS.congr {P : Program} {f : FuncId} {args : List Value} {H H2 : Heap} {nx : Nat} {v : Value} {H' : Heap} {nx' : Nat} (h : CS P f args H nx v H' nx') (hg : ∀ i, i < nx → getH H2 i = getH H i) (ht : ∀ i, nx ≤ i → getH H i = none) : CS P f args H2 nx v H' nx' := by
  refine ⟨h.1, fun F args' w hr hv => ?_⟩
  have e : ∀ i, getH H2 i = getH H i := fun i => by
    rcases Nat.lt_or_ge i nx with g | g
    · exact hg i g
    · rw [ht i g, hr.top i g]
  refine (h.2 F args' w (hr.sub fun i b hb => by rw [e]; exact hb) hv).mono fun en w' ⟨v', F', he, hvr, hst⟩ => ⟨v', F', he, hvr, ?_⟩
  have ho : ∀ b, Own F H nx b ↔ Own F H2 nx b := fun b =>
    ⟨fun ⟨i, k, t, h1, h2, h3⟩ => ⟨i, k, t, h1, by rw [e]; exact h2, h3⟩, fun ⟨i, k, t, h1, h2, h3⟩ => ⟨i, k, t, h1, by rw [← e]; exact h2, h3⟩⟩
  exact ⟨hst.le, hst.ext, hst.os, hst.tape, hst.output, hst.size, fun b hb hn => hst.frame b hb (fun h => hn ((ho b).1 h)), fun b hb => (hst.own b hb).imp (ho b).1 id, fun i hi hn => hst.keep i hi (by rw [← e]; exact hn), fun i b hg hrb => let ⟨h1, h2⟩ := hst.rom i b hg hrb; ⟨h1, by rw [e]; exact h2⟩, hst.hr⟩
theorem Emb.sub {ρ : Nat → Nat} {H0 H1 : Heap} {n0 : Nat} {H : Heap} {nx : Nat} (h : Emb ρ H0 n0 H nx) (hs : ∀ i b, getH H1 i = some b → getH H0 i = some b) : Emb ρ H1 n0 H nx :=
  ⟨h.lt, h.inj, fun i b hb => h.blk i b (hs i b hb), fun i hi => by
    cases hg : getH H1 i with
    | none => rfl
    | some b => exact absurd (hs i b hg) (by rw [h.top i hi]; simp)⟩
/-- A run between two heaps that are written down. -/
noncomputable def litRun (P : Program) (orc : Orc) (dok : FuncId → Nat → Bool) (f : FuncId) (args : List Value) (l0 : Lit) (n0 : Nat) (v1 : Value) (l1 : Lit) (n1 : Nat) : Bool :=
  callD P orc dok 200 f args (mkH l0) n0 false fun v H n => veq 65536 v v1 && (Nat.beq n n1 && subLt H l1)
theorem litRun_cs {P : Program} (hm : P.follows .mixedOrders = true) (hNG : NamesOK P) {orc : Orc} (ho : OrcOK P orc) {dok : FuncId → Nat → Bool} (hdok : DfrOK P dok) {f : FuncId} {args : List Value} {l0 : Lit} {n0 : Nat} {v1 : Value} {l1 : Lit} {n1 : Nat}
    (h : litRun P orc dok f args l0 n0 v1 l1 n1 = true) : CS P f args (mkH l0) n0 v1 (mkH l1) n1 := by
  unfold litRun at h
  rcases callD_sound (β := Bool) hm hNG ho hdok 200 f args (mkH l0) n0 false (fun v H n => veq 65536 v v1 && (Nat.beq n n1 && subLt H l1)) with e | ⟨v, H1, nx1, e, hcs⟩
  · rw [e] at h; cases h
  · rw [e] at h
    simp only [Bool.and_eq_true] at h
    obtain ⟨h1, h2, h3⟩ := h
    have := Nat.eq_of_beq_eq_true h2
    subst this
    rw [← veq_eq h1]
    exact hcs.sub (subLt_ok h3)
/-- A run that is written down, for the executor: the same arguments, the same heap. -/
noncomputable def litO (args0 : List Value) (l0 : Lit) (n0 : Nat) (v1 : Value) (l1 : Lit) (n1 : Nat) : List Value → Heap → Nat → Option (Value × Heap × Nat) := fun args H nx =>
  cond (Nat.beq nx n0 && (veqs 65536 args args0 && sameH (mkH l0) H n0 0)) (some (v1, mkH l1, n1)) none
def lowL (n : Nat) : Lit → Bool
  | [] => true
  | p :: l => Nat.blt p.1 n && lowL n l
theorem lowL_ok {n : Nat} : ∀ {l : Lit}, lowL n l = true → ∀ i, n ≤ i → getH (mkH l) i = none
  | [], _, i, _ => getH_leaf i
  | p :: l, h, i, hi => by
    simp only [lowL, Bool.and_eq_true, Nat.blt_eq] at h
    rw [mkH_cons, if_neg (by omega)]
    exact lowL_ok h.2 i hi
theorem litO_ok {P : Program} {f : FuncId} {args0 : List Value} {l0 : Lit} {n0 : Nat} {v1 : Value} {l1 : Lit} {n1 : Nat} (hcs : CS P f args0 (mkH l0) n0 v1 (mkH l1) n1) (hlow : lowL n0 l0 = true) {args : List Value} {H : Heap} {nx : Nat} {v : Value} {H' : Heap} {nx' : Nat}
    (h : litO args0 l0 n0 v1 l1 n1 args H nx = some (v, H', nx')) : CS P f args H nx v H' nx' := by
  unfold litO at h
  cases hc : (Nat.beq nx n0 && (veqs 65536 args args0 && sameH (mkH l0) H n0 0)) with
  | false => rw [hc] at h; cases h
  | true =>
    rw [hc] at h
    cases h
    simp only [Bool.and_eq_true] at hc
    obtain ⟨h1, h2, h3⟩ := hc
    have := Nat.eq_of_beq_eq_true h1
    subst this
    have h2 := (eqFn (a := undef) (b := undef) 65536).2 _ _ h2
    subst h2
    exact hcs.congr (fun i hi => sameH_ok h3 i (by omega) (by omega)) (lowL_ok hlow)
end Go.Clo

namespace Go.Proofs.YtbmiedinclieaaaGreatDoor
open Go.Clo
section
variable {α : Type} (lt : α → α → Bool)
def insG (z : α) : List α → List α
  | [] => [z]
  | x :: l => cond (lt x z) (x :: insG z l) (z :: x :: l)
def sortG : List α → List α
  | [] => []
  | z :: l => insG lt z (sortG l)
end
def sortZ (l : List Int) : List Int := sortG (fun a b => ltI a b) l
def sortB (l : List ByteArray) : List ByteArray := sortG (fun a b => Op.bytesLess a.data.toList b.data.toList) l
def keyI (e : MapEntry) : Option Int := match e.key with
  | .int .i64 (.ofNat n) => cond (Nat.ble n 1000000) (some (.ofNat n)) none
  | _ => none
def keysI : List MapEntry → Option (List Int)
  | [] => some []
  | e :: es => match keyI e, keysI es with
    | some s, some l => some (s :: l)
    | _, _ => none
theorem keysI_map : ∀ {es : List MapEntry} {zs : List Int}, keysI es = some zs → es.map (·.key) = zs.map (Value.int .i64) ∧ ∀ z ∈ zs, 0 ≤ z ∧ z ≤ 1000000
  | [], zs, h => by simp [keysI] at h; subst h; exact ⟨rfl, fun z hz => by cases hz⟩
  | e :: es, zs, h => by
    simp only [keysI] at h
    split at h
    · rename_i s l h1 h2
      cases h
      obtain ⟨g1, g2⟩ := keysI_map h2
      unfold keyI at h1
      split at h1
      · rename_i n hs
        cases hb : Nat.ble n 1000000 with
        | false => rw [hb] at h1; cases h1
        | true =>
          rw [hb] at h1; simp only [cond_true, Option.some.injEq] at h1; subst h1
          have := Nat.le_of_ble_eq_true hb
          refine ⟨by simp [g1, hs], fun z hz => ?_⟩
          rcases List.mem_cons.1 hz with rfl | hz
          · exact ⟨Int.natCast_nonneg n, by show (n : Int) ≤ _; omega⟩
          · exact g2 z hz
      · cases h1
    · cases h
def keyS (e : MapEntry) : Option ByteArray := match e.key with
  | .string s => cond (Nat.ble s.size 1000) (some s) none
  | _ => none
def keysS : List MapEntry → Option (List ByteArray)
  | [] => some []
  | e :: es => match keyS e, keysS es with
    | some s, some l => some (s :: l)
    | _, _ => none
theorem keysS_map : ∀ {es : List MapEntry} {zs : List ByteArray}, keysS es = some zs → es.map (·.key) = zs.map Value.string ∧ ∀ z ∈ zs, z.size ≤ 1000
  | [], zs, h => by simp [keysS] at h; subst h; exact ⟨rfl, fun z hz => by cases hz⟩
  | e :: es, zs, h => by
    simp only [keysS] at h
    split at h
    · rename_i s l h1 h2
      cases h
      obtain ⟨g1, g2⟩ := keysS_map h2
      unfold keyS at h1
      split at h1
      · rename_i s' hs
        cases hb : Nat.ble s'.size 1000 with
        | false => rw [hb] at h1; cases h1
        | true =>
          rw [hb] at h1; simp only [cond_true, Option.some.injEq] at h1; subst h1
          refine ⟨by simp [g1, hs], fun z hz => ?_⟩
          rcases List.mem_cons.1 hz with rfl | hz
          · exact Nat.le_of_ble_eq_true hb
          · exact g2 z hz
      · cases h1
    · cases h
noncomputable def newR (cs : List Value) (H : Heap) (nx : Nat) : Value × Heap × Nat := match cs with
  | [] => (.slice none 0 0, H, nx)
  | z :: l => (.slice (some ⟨nx, 0, none⟩) (l.length + 1) (l.length + 1), hs H nx (some (.cells (z :: l) 1)), nx + 1)
noncomputable def newQ (cs : List Value) (H : Heap) (nx : Nat) : Option (Value × Heap × Nat) := match cs with
  | [] => some (.slice none 0 0, H, nx)
  | z :: l => Go.Clo.spine (z :: l) fun c => hsK H nx (some (.cells c 1)) fun H => forceN (l.length + 1) fun n => forceN (nx + 1) fun q => some (.slice (some ⟨nx, 0, none⟩) n n, H, q)
theorem newQ_eq (cs : List Value) (H : Heap) (nx : Nat) : newQ cs H nx = some ((newR cs H nx).1, (newR cs H nx).2.1, (newR cs H nx).2.2) := by
  cases cs with
  | nil => rfl
  | cons z l => simp only [newQ]; rw [Go.Clo.spine_eq, hsK_eq, forceN_eq, forceN_eq]; rfl
end Go.Proofs.YtbmiedinclieaaaGreatDoor
