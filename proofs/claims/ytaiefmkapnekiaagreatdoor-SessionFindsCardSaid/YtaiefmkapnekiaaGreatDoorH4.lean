/-
  The closed executor: a run beside another heap. The names of the run's heap are given anew; what the run adds is added there.
-/
import Derived.Test.YtaiefmkapnekiaaGreatDoorH3
set_option linter.all false
namespace Go.Clo

/-! Names given anew. -/
def renP (ρ : Nat → Nat) : Option Addr → Option Addr
  | some ⟨b, o, none⟩ => some ⟨ρ b, o, none⟩
  | a => a
mutual
def ren (ρ : Nat → Nat) : Value → Value
  | .bool b => .bool b
  | .int k n => .int k n
  | .float k n => .float k n
  | .complex k a b => .complex k a b
  | .string s => .string s
  | .pointer a => .pointer (renP ρ a)
  | .slice a n c => .slice (renP ρ a) n c
  | .map r => .map (r.map ρ)
  | .chan c => .chan c
  | .func fn x y => .func fn (renA ρ x) (renA ρ y)
  | .nilFunc => .nilFunc
  | .iface t v => .iface t (ren ρ v)
  | .nilIface => .nilIface
  | .agg x => .agg (renA ρ x)
  | .tuple x => .tuple (renA ρ x)
def renA (ρ : Nat → Nat) : Array Value → Array Value
  | ⟨l⟩ => ⟨renL ρ l⟩
def renL (ρ : Nat → Nat) : List Value → List Value
  | [] => []
  | v :: l => ren ρ v :: renL ρ l
end
theorem renL_map (ρ : Nat → Nat) : ∀ l : List Value, renL ρ l = l.map (ren ρ)
  | [] => by rw [renL]; rfl
  | v :: l => by rw [renL, renL_map ρ l]; rfl
theorem renA_list (ρ : Nat → Nat) (x : Array Value) : (renA ρ x).toList = x.toList.map (ren ρ) := by
  obtain ⟨l⟩ := x; rw [renA]; exact renL_map ρ l
theorem renA_size (ρ : Nat → Nat) (x : Array Value) : (renA ρ x).size = x.size := by
  have := congrArg List.length (renA_list ρ x)
  simpa using this
theorem renA_get (ρ : Nat → Nat) (x : Array Value) (i : Nat) : (renA ρ x)[i]? = (x[i]?).map (ren ρ) := by
  rw [← Array.getElem?_toList, renA_list, List.getElem?_map, Array.getElem?_toList]
theorem renL_length (ρ : Nat → Nat) (l : List Value) : (renL ρ l).length = l.length := by rw [renL_map]; simp

/-- All names of the value are below n. -/
def lowV : Nat → Nat → Value → Bool
  | 0, _, _ => false
  | k + 1, n, v => match v with
    | .pointer a => (match a with | some ⟨b, _, none⟩ => Nat.blt b n | _ => true)
    | .slice a _ _ => (match a with | some ⟨b, _, none⟩ => Nat.blt b n | _ => true)
    | .map r => (match r with | some r => Nat.blt r n | none => true)
    | .func _ x y => x.toList.all (lowV k n) && y.toList.all (lowV k n)
    | .iface _ v => lowV k n v
    | .agg x => x.toList.all (lowV k n)
    | .tuple x => x.toList.all (lowV k n)
    | .chan _ => false
    | _ => true
theorem arr_all {p : Value → Bool} {x : Array Value} (h : x.toList.all p = true) {i : Nat} {v : Value} (hv : x[i]? = some v) : p v = true :=
  List.all_eq_true.1 h v (by rw [← Array.getElem?_toList] at hv; exact List.mem_of_getElem? hv)

/-- The addresses as the run sees them. -/
def unF (n : Nat) (ρ : Nat → Nat) (F : FM) : FM := fun i => if i < n then F (ρ i) else none
theorem VR.un {F : FM} {ρ : Nat → Nat} {n : Nat} : ∀ (k : Nat) {v v' : Value}, lowV k n v = true → VR F (ren ρ v) v' → VR (unF n ρ F) v v' := by
  intro k
  induction k with
  | zero => intro v v' h; cases h
  | succ k ih =>
    have arr : ∀ {x x' : Array Value}, x.toList.all (lowV k n) = true → (renA ρ x).size = x'.size → (∀ (i : Nat) (v v' : Value), (renA ρ x)[i]? = some v → x'[i]? = some v' → VR F v v') →
        x.size = x'.size ∧ ∀ (i : Nat) (v v' : Value), x[i]? = some v → x'[i]? = some v' → VR (unF n ρ F) v v' := by
      intro x x' hx h1 h2
      refine ⟨by rw [← h1, renA_size], fun i v v' e1 e2 => ih (arr_all hx e1) (h2 i (ren ρ v) v' (by rw [renA_get, e1]; rfl) e2)⟩
    intro v v' hl h
    cases v with
    | bool b => rw [ren] at h; cases h; exact .bool b
    | int q m => rw [ren] at h; cases h; exact .int q m
    | float q m => rw [ren] at h; cases h; exact .float q m
    | complex q a b => rw [ren] at h; cases h; exact .complex q a b
    | string s => rw [ren] at h; cases h; exact .string s
    | nilFunc => rw [ren] at h; cases h; exact .nilFunc
    | nilIface => rw [ren] at h; cases h; exact .nilIface
    | chan c => simp [lowV] at hl
    | pointer a =>
      rw [ren] at h
      match a, h, hl with
      | none, h, _ => simp only [renP] at h; cases h; exact .ptrN
      | some ⟨b, o, none⟩, h, hl =>
        simp only [renP] at h
        have hb : b < n := by simpa [lowV, Nat.blt_eq] using hl
        cases h with
        | ptr hF => exact .ptr (by simp [unF, hb, hF])
      | some ⟨b, o, some s⟩, h, _ => simp only [renP] at h; cases h
    | slice a m c =>
      rw [ren] at h
      match a, h, hl with
      | none, h, _ => simp only [renP] at h; cases h; exact .sliceN m c
      | some ⟨b, o, none⟩, h, hl =>
        simp only [renP] at h
        have hb : b < n := by simpa [lowV, Nat.blt_eq] using hl
        obtain ⟨_, t, c', hF, rfl, hc⟩ := h.slice_inv
        exact .slice (by simp [unF, hb, hF]) hc
      | some ⟨b, o, some s⟩, h, _ =>
        simp only [renP] at h
        cases h with
        | sliceW s a => exact .sliceW s _
        | sliceU s a c' => exact .sliceU s _ _
    | map r =>
      rw [ren] at h
      cases r with
      | none => simp only [Option.map_none] at h; cases h; exact .mapN
      | some r =>
        have hb : r < n := by simpa [lowV, Nat.blt_eq] using hl
        simp only [Option.map_some] at h
        cases h with
        | map hF => exact .map (by simp [unF, hb, hF])
    | func fn x y =>
      rw [ren] at h
      simp only [lowV, Bool.and_eq_true] at hl
      cases h with
      | func _ h1 h2 h3 h4 =>
        obtain ⟨g1, g2⟩ := arr hl.1 h1 h2
        obtain ⟨g3, g4⟩ := arr hl.2 h3 h4
        exact .func fn g1 g2 g3 g4
    | iface t u =>
      rw [ren] at h
      simp only [lowV] at hl
      cases h with
      | iface _ h => exact .iface t (ih hl h)
    | agg x =>
      rw [ren] at h
      simp only [lowV] at hl
      cases h with
      | agg h1 h2 => obtain ⟨g1, g2⟩ := arr hl h1 h2; exact .agg g1 g2
    | tuple x =>
      rw [ren] at h
      simp only [lowV] at hl
      cases h with
      | tuple h1 h2 => obtain ⟨g1, g2⟩ := arr hl h1 h2; exact .tuple g1 g2
theorem VR.re {F G : FM} {ρ : Nat → Nat} (hG : ∀ i t, F i = some t → G (ρ i) = some t) {v v' : Value} (h : VR F v v') : VR G (ren ρ v) v' := by
  have arr : ∀ {x x' : Array Value}, x.size = x'.size → (∀ (i : Nat) (v v' : Value), x[i]? = some v → x'[i]? = some v' → VR G (ren ρ v) v') →
      (renA ρ x).size = x'.size ∧ ∀ (i : Nat) (v v' : Value), (renA ρ x)[i]? = some v → x'[i]? = some v' → VR G v v' := by
    intro x x' h1 h2
    refine ⟨by rw [renA_size, h1], fun i v v' e1 e2 => ?_⟩
    rw [renA_get] at e1
    cases hx : x[i]? with
    | none => rw [hx] at e1; cases e1
    | some u => rw [hx] at e1; cases e1; exact h2 i u v' hx e2
  induction h with
  | any v => rw [ren]; exact .any v
  | bool b => rw [ren]; exact .bool b
  | int k n => rw [ren]; exact .int k n
  | float k n => rw [ren]; exact .float k n
  | complex k n m => rw [ren]; exact .complex k n m
  | string s => rw [ren]; exact .string s
  | ptrN => rw [ren]; exact .ptrN
  | ptr h => rw [ren]; exact .ptr (hG _ _ h)
  | sliceN n c => rw [ren]; exact .sliceN n c
  | slice h hc => rw [ren]; exact .slice (hG _ _ h) hc
  | sliceW s a => rw [ren]; exact .sliceW s a
  | sliceU s a c' => rw [ren]; exact .sliceU s a c'
  | mapN => rw [ren]; exact .mapN
  | map h => rw [ren]; exact .map (hG _ _ h)
  | func fn h1 _ h3 _ i2 i4 => rw [ren]; obtain ⟨g1, g2⟩ := arr h1 i2; obtain ⟨g3, g4⟩ := arr h3 i4; exact .func fn g1 g2 g3 g4
  | nilFunc => rw [ren]; exact .nilFunc
  | iface t _ ih => rw [ren]; exact .iface t ih
  | nilIface => rw [ren]; exact .nilIface
  | agg h1 _ ih => rw [ren]; obtain ⟨g1, g2⟩ := arr h1 ih; exact .agg g1 g2
  | tuple h1 _ ih => rw [ren]; obtain ⟨g1, g2⟩ := arr h1 ih; exact .tuple g1 g2
theorem ren_congr {ρ ρ' : Nat → Nat} {n : Nat} (hρ : ∀ i, i < n → ρ i = ρ' i) : ∀ (k : Nat) {v : Value}, lowV k n v = true → ren ρ v = ren ρ' v := by
  intro k
  induction k with
  | zero => intro v h; cases h
  | succ k ih =>
    have arr : ∀ {x : Array Value}, x.toList.all (lowV k n) = true → renA ρ x = renA ρ' x := by
      intro x hx
      apply Array.toList_inj.1
      rw [renA_list, renA_list]
      exact List.map_congr_left fun v hv => ih (List.all_eq_true.1 hx v hv)
    intro v hl
    cases v with
    | pointer a =>
      rw [ren, ren]
      match a, hl with
      | none, _ => rfl
      | some ⟨b, o, none⟩, hl => simp only [renP]; rw [hρ b (by simpa [lowV, Nat.blt_eq] using hl)]
      | some ⟨b, o, some s⟩, _ => rfl
    | slice a m c =>
      rw [ren, ren]
      match a, hl with
      | none, _ => rfl
      | some ⟨b, o, none⟩, hl => simp only [renP]; rw [hρ b (by simpa [lowV, Nat.blt_eq] using hl)]
      | some ⟨b, o, some s⟩, _ => rfl
    | map r =>
      rw [ren, ren]
      cases r with
      | none => rfl
      | some r => simp only [Option.map_some]; rw [hρ r (by simpa [lowV, Nat.blt_eq] using hl)]
    | func fn x y =>
      simp only [lowV, Bool.and_eq_true] at hl
      rw [ren, ren, arr hl.1, arr hl.2]
    | iface t u => simp only [lowV] at hl; rw [ren, ren, ih hl]
    | agg x => simp only [lowV] at hl; rw [ren, ren, arr hl]
    | tuple x => simp only [lowV] at hl; rw [ren, ren, arr hl]
    | _ => rw [ren, ren]
theorem lowV_mono {n m : Nat} (h : n ≤ m) : ∀ (k : Nat) {v : Value}, lowV k n v = true → lowV k m v = true := by
  intro k
  induction k with
  | zero => intro v h; cases h
  | succ k ih =>
    have arr : ∀ {x : Array Value}, x.toList.all (lowV k n) = true → x.toList.all (lowV k m) = true := by
      intro x hx
      rw [List.all_eq_true] at hx ⊢
      exact fun v hv => ih (hx v hv)
    intro v hl
    cases v with
    | pointer a =>
      match a, hl with
      | none, _ => rfl
      | some ⟨b, o, none⟩, hl => simp only [lowV, Nat.blt_eq] at hl ⊢; omega
      | some ⟨b, o, some s⟩, _ => rfl
    | slice a q c =>
      match a, hl with
      | none, _ => rfl
      | some ⟨b, o, none⟩, hl => simp only [lowV, Nat.blt_eq] at hl ⊢; omega
      | some ⟨b, o, some s⟩, _ => rfl
    | map r =>
      cases r with
      | none => rfl
      | some r => simp only [lowV, Nat.blt_eq] at hl ⊢; omega
    | func fn x y => simp only [lowV, Bool.and_eq_true] at hl ⊢; exact ⟨arr hl.1, arr hl.2⟩
    | iface t u => simp only [lowV] at hl ⊢; exact ih hl
    | agg x => simp only [lowV] at hl ⊢; exact arr hl
    | tuple x => simp only [lowV] at hl ⊢; exact arr hl
    | chan c => simp [lowV] at hl
    | _ => rfl
theorem VL.un {F : FM} {ρ : Nat → Nat} {n k : Nat} {l l' : List Value} (hl : l.all (lowV k n) = true) (h : VL F (renL ρ l) l') : VL (unF n ρ F) l l' := by
  rw [renL_map] at h
  refine VL.of (by simpa using h.length) fun i v v' e1 e2 => VR.un k (List.all_eq_true.1 hl v (List.mem_of_getElem? e1)) (h.get i _ _ (by rw [List.getElem?_map, e1]; rfl) e2)
theorem VL.re {F G : FM} {ρ : Nat → Nat} (hG : ∀ i t, F i = Option.some t → G (ρ i) = Option.some t) {l l' : List Value} (h : VL F l l') : VL G (renL ρ l) l' := by
  rw [renL_map]
  induction h with
  | nil => exact .nil
  | cons h _ ih => exact .cons (h.re hG) ih

/-! Blocks. -/
def renE (ρ : Nat → Nat) (e : MapEntry) : MapEntry := ⟨e.key, ren ρ e.val, e.born⟩
def renB (ρ : Nat → Nat) : Blk → Blk
  | .cells c sl => .cells (renL ρ c) sl
  | .map es k => .map (es.map (renE ρ)) k
  | .rom c => .rom (renL ρ c)
  | .iter m s q => .iter (m.map ρ) s q
def lowB (n : Nat) : Blk → Bool
  | .cells c _ => c.all (lowV 16 n)
  | .map es _ => es.all fun e => lowV 16 n e.val
  | .rom _ => false
  | .iter m _ _ => match m with
    | none => true
    | some r => Nat.blt r n
theorem lowB_rom {n : Nat} {b : Blk} (h : lowB n b = true) : b.isRom = false := by cases b <;> first | rfl | cases h
theorem renB_rom (ρ : Nat → Nat) (b : Blk) : (renB ρ b).isRom = b.isRom := by cases b <;> rfl
theorem renB_congr {ρ ρ' : Nat → Nat} {n : Nat} (hρ : ∀ i, i < n → ρ i = ρ' i) {b : Blk} (h : lowB n b = true) : renB ρ b = renB ρ' b := by
  cases b with
  | cells c sl =>
    simp only [renB]; rw [renL_map, renL_map]
    congr 1
    exact List.map_congr_left fun v hv => ren_congr hρ 16 (List.all_eq_true.1 h v hv)
  | map es k =>
    simp only [renB]
    congr 1
    refine List.map_congr_left fun e he => ?_
    have := List.all_eq_true.1 h e he
    simp only [renE]; rw [ren_congr hρ 16 this]
  | rom c => cases h
  | iter m s q =>
    cases m with
    | none => rfl
    | some r =>
      have hr : r < n := by simpa [lowB, Nat.blt_eq] using h
      simp only [renB, Option.map_some]; rw [hρ r hr]
theorem lowB_mono {n m : Nat} (h : n ≤ m) {b : Blk} (hb : lowB n b = true) : lowB m b = true := by
  cases b with
  | cells c sl =>
    simp only [lowB] at hb ⊢
    rw [List.all_eq_true] at hb ⊢
    exact fun v hv => lowV_mono h 16 (hb v hv)
  | map es k =>
    simp only [lowB] at hb ⊢
    rw [List.all_eq_true] at hb ⊢
    exact fun v hv => lowV_mono h 16 (hb v hv)
  | rom c => cases hb
  | iter q s r =>
    cases q with
    | none => rfl
    | some r => simp only [lowB, Nat.blt_eq] at hb ⊢; omega
theorem ML.un {F : FM} {ρ : Nat → Nat} {n : Nat} {es es' : List MapEntry} (hl : (es.all fun e => lowV 16 n e.val) = true) (h : ML F (es.map (renE ρ)) es') : ML (unF n ρ F) es es' := by
  have hk : (es.map (renE ρ)).map (·.key) = es.map (·.key) := by rw [List.map_map]; rfl
  obtain ⟨h1, h2, h3, ⟨c, h4, h5⟩, h6, h7⟩ := h
  refine ⟨by rw [← hk]; exact h1, h2, by simpa using h3, ⟨c, fun e he => h4 (renE ρ e) (List.mem_map.2 ⟨e, he, rfl⟩), h5⟩, fun e he => ?_, fun e' he' => ?_⟩
  · obtain ⟨f1, e', hm, g1, g2, g3⟩ := h6 (renE ρ e) (List.mem_map.2 ⟨e, he, rfl⟩)
    exact ⟨f1, e', hm, g1, VR.un 16 (List.all_eq_true.1 hl e he) g2, g3⟩
  · obtain ⟨e, he, g⟩ := h7 e' he'
    obtain ⟨e1, he1, rfl⟩ := List.mem_map.1 he
    exact ⟨e1, he1, g⟩
theorem ML.re {F G : FM} {ρ : Nat → Nat} (hG : ∀ i t, F i = some t → G (ρ i) = some t) {es es' : List MapEntry} (h : ML F es es') : ML G (es.map (renE ρ)) es' := by
  have hk : (es.map (renE ρ)).map (·.key) = es.map (·.key) := by rw [List.map_map]; rfl
  obtain ⟨h1, h2, h3, ⟨c, h4, h5⟩, h6, h7⟩ := h
  refine ⟨by rw [hk]; exact h1, h2, by simpa using h3, ⟨c, fun e he => ?_, h5⟩, fun e he => ?_, fun e' he' => ?_⟩
  · obtain ⟨e1, he1, rfl⟩ := List.mem_map.1 he; exact h4 e1 he1
  · obtain ⟨e1, he1, rfl⟩ := List.mem_map.1 he
    obtain ⟨f1, e', hm, g1, g2, g3⟩ := h6 e1 he1
    exact ⟨f1, e', hm, g1, g2.re hG, g3⟩
  · obtain ⟨e, he, g⟩ := h7 e' he'
    exact ⟨renE ρ e, List.mem_map.2 ⟨e, he, rfl⟩, g⟩
theorem BR.un {F : FM} {ρ : Nat → Nat} {n : Nat} {t : Tgt} {b : Blk} {w : World} (hl : lowB n b = true) (h : BR F t (renB ρ b) w) : BR (unF n ρ F) t b w := by
  cases b with
  | cells c sl =>
    obtain ⟨c', e, fz, h1, h2, h3, h4, h5, h6⟩ := h
    rw [renL_length] at h3 h5 h6
    exact ⟨c', e, fz, h1, h2, h3, h4, h5, VL.un hl h6⟩
  | map es k =>
    obtain ⟨h0, es', c', h1, hc, h2, h3⟩ := h
    exact ⟨h0, es', c', h1, hc, ML.un hl h2, h3⟩
  | rom c => cases hl
  | iter m s q =>
    obtain ⟨h0, m', si, sn, last, h1, hsi, h2, h3⟩ := h
    refine ⟨h0, m', si, sn, last, h1, hsi, ?_, h3⟩
    cases m with
    | none => exact h2
    | some r =>
      obtain ⟨u, g1, g2⟩ := h2
      have hr : r < n := by simpa [lowB, Nat.blt_eq] using hl
      exact ⟨u, by simp [unF, hr, g1], g2⟩
theorem BR.re {F G : FM} {ρ : Nat → Nat} (hG : ∀ i t, F i = some t → G (ρ i) = some t) {t : Tgt} {b : Blk} {w : World} (h : BR F t b w) : BR G t (renB ρ b) w := by
  cases b with
  | cells c sl =>
    obtain ⟨c', e, fz, h1, h2, h3, h4, h5, h6⟩ := h
    refine ⟨c', e, fz, h1, h2, by rw [renL_length]; exact h3, h4, by rw [renL_length]; exact h5, ?_⟩
    rw [renL_length]; exact h6.re hG
  | map es k =>
    obtain ⟨h0, es', c', h1, hc, h2, h3⟩ := h
    exact ⟨h0, es', c', h1, hc, h2.re hG, h3⟩
  | rom c =>
    obtain ⟨c', e, m, h1, h2, h3, h4, h5, h6⟩ := h
    refine ⟨c', e, m, h1, h2, by rw [renL_length]; exact h3, h4, by rw [renL_length]; exact h5, ?_⟩
    rw [renL_length]; exact h6.re hG
  | iter m s q =>
    obtain ⟨h0, m', si, sn, last, h1, hsi, h2, h3⟩ := h
    refine ⟨h0, m', si, sn, last, h1, hsi, ?_, h3⟩
    cases m with
    | none => exact h2
    | some r => obtain ⟨u, g1, g2⟩ := h2; exact ⟨u, hG _ _ g1, g2⟩

/-! A heap within another. -/
structure Emb (ρ : Nat → Nat) (H0 : Heap) (n0 : Nat) (H : Heap) (nx : Nat) : Prop where
  lt : ∀ i, i < n0 → ρ i < nx
  inj : ∀ i j, i < n0 → j < n0 → ρ i = ρ j → i = j
  blk : ∀ i b, getH H0 i = some b → getH H (ρ i) = some (renB ρ b) ∧ lowB n0 b = true
  top : ∀ i, n0 ≤ i → getH H0 i = none
theorem Emb.nil (H : Heap) (nx : Nat) : Emb id .leaf 0 H nx := ⟨fun i h => by omega, fun i j h => by omega, fun i b h => by (rw [getH_leaf] at h; cases h), fun i _ => getH_leaf i⟩
theorem Emb.low {ρ : Nat → Nat} {H0 : Heap} {n0 : Nat} {H : Heap} {nx : Nat} (h : Emb ρ H0 n0 H nx) {i : Nat} {b : Blk} (hb : getH H0 i = some b) : i < n0 := by
  rcases Nat.lt_or_ge i n0 with g | g
  · exact g
  · rw [h.top i g] at hb; cases hb
theorem Emb.step {ρ : Nat → Nat} {H0 : Heap} {n0 : Nat} {H H' : Heap} {nx nx' : Nat} (h : Emb ρ H0 n0 H nx) (hn : nx ≤ nx') (hH : ∀ i b, getH H0 i = some b → getH H' (ρ i) = getH H (ρ i)) : Emb ρ H0 n0 H' nx' :=
  ⟨fun i hi => Nat.lt_of_lt_of_le (h.lt i hi) hn, h.inj, fun i b hb => ⟨(hH i b hb).trans (h.blk i b hb).1, (h.blk i b hb).2⟩, h.top⟩
/-- One block more. -/
def addρ (ρ : Nat → Nat) (n j : Nat) : Nat → Nat := fun i => if i = n then j else ρ i
theorem addρ_same (ρ : Nat → Nat) (n j : Nat) : addρ ρ n j n = j := by simp [addρ]
theorem addρ_lt (ρ : Nat → Nat) {n j i : Nat} (h : i < n) : addρ ρ n j i = ρ i := by simp [addρ]; omega
theorem Emb.add {ρ : Nat → Nat} {H0 : Heap} {n0 : Nat} {H : Heap} {nx : Nat} (h : Emb ρ H0 n0 H nx) {j : Nat} (hj : j < nx) (hne : ∀ i, i < n0 → ρ i ≠ j) {b : Blk} (hlow : lowB n0 b = true) (hb : getH H j = some (renB ρ b)) :
    Emb (addρ ρ n0 j) (hs H0 n0 (some b)) (n0 + 1) H nx := by
  have hag : ∀ i, i < n0 → ρ i = addρ ρ n0 j i := fun i hi => (addρ_lt ρ hi).symm
  refine ⟨fun i hi => ?_, fun i k hi hk e => ?_, fun i c hc => ?_, fun i hi => by rw [getH_hs, if_neg (by omega)]; exact h.top i (by omega)⟩
  · by_cases e : i = n0
    · subst e; rw [addρ_same]; exact hj
    · rw [addρ_lt ρ (by omega)]; exact h.lt i (by omega)
  · by_cases e1 : i = n0 <;> by_cases e2 : k = n0
    · rw [e1, e2]
    · subst e1; rw [addρ_same, addρ_lt ρ (by omega)] at e; exact absurd e.symm (hne k (by omega))
    · subst e2; rw [addρ_same, addρ_lt ρ (by omega)] at e; exact absurd e (hne i (by omega))
    · rw [addρ_lt ρ (by omega), addρ_lt ρ (by omega)] at e; exact h.inj i k (by omega) (by omega) e
  · rw [getH_hs] at hc
    by_cases e : i = n0
    · subst e; rw [if_pos rfl] at hc; cases hc
      rw [addρ_same, ← renB_congr hag hlow]
      exact ⟨hb, lowB_mono (by omega) hlow⟩
    · rw [if_neg e] at hc
      obtain ⟨g1, g2⟩ := h.blk i c hc
      have hi := h.low hc
      rw [addρ_lt ρ hi, ← renB_congr hag g2]
      exact ⟨g1, lowB_mono (by omega) g2⟩

/-- A heap that differs at finitely many names. -/
theorem heap_new (H : Heap) (g : Nat → Option Blk) : ∀ (n nx : Nat), ∃ H', ∀ j, getH H' j = if nx ≤ j ∧ j < nx + n then g j else getH H j
  | 0, nx => ⟨H, fun j => by rw [if_neg (by omega)]⟩
  | n + 1, nx => by
    obtain ⟨H', h⟩ := heap_new H g n nx
    refine ⟨hs H' (nx + n) (g (nx + n)), fun j => ?_⟩
    rw [getH_hs, h]
    by_cases e : j = nx + n
    · rw [if_pos e, if_pos (by omega), e]
    · rw [if_neg e]
      by_cases e2 : nx ≤ j ∧ j < nx + n
      · rw [if_pos e2, if_pos (by omega)]
      · rw [if_neg e2, if_neg (by omega)]

/-- What a run says of a heap within another: its new names follow the other heap's. -/
def newρ (ρ : Nat → Nat) (n0 nx : Nat) : Nat → Nat := fun i => if i < n0 then ρ i else nx + (i - n0)
theorem emb_cs {P : Program} {f : FuncId} {args : List Value} {H0 : Heap} {n0 : Nat} {v : Value} {H1 : Heap} {n1 : Nat} {ρ : Nat → Nat} {H : Heap} {nx : Nat} (hcs : CS P f args H0 n0 v H1 n1) (he : Emb ρ H0 n0 H nx)
    (ha : args.all (lowV 16 n0) = true) (hle : n0 ≤ n1) (hkeep : ∀ i, i < n0 → getH H1 i = getH H0 i) (hl : ∀ i b, getH H1 i = some b → lowB n1 b = true) (htop : ∀ i, n1 ≤ i → getH H1 i = none) (hv : lowV 16 n1 v = true) :
    ∃ H', CS P f (renL ρ args) H nx (ren (newρ ρ n0 nx) v) H' (nx + (n1 - n0)) ∧ (∀ j, j < nx → getH H' j = getH H j) ∧ Emb (newρ ρ n0 nx) H1 n1 H' (nx + (n1 - n0)) := by
  obtain ⟨H', hH'⟩ := heap_new H (fun j => (getH H1 (n0 + (j - nx))).map (renB (newρ ρ n0 nx))) (n1 - n0) nx
  have hag : ∀ i, i < n0 → ρ i = newρ ρ n0 nx i := fun i hi => by simp [newρ, hi]
  have hnw : ∀ i, n0 ≤ i → newρ ρ n0 nx i = nx + (i - n0) := fun i hi => by simp [newρ]; omega
  have hold : ∀ j, j < nx → getH H' j = getH H j := fun j hj => by rw [hH', if_neg (by omega)]
  have hemb : Emb (newρ ρ n0 nx) H1 n1 H' (nx + (n1 - n0)) := by
    refine ⟨fun i hi => ?_, fun i k hi hk e => ?_, fun i b hb => ⟨?_, hl i b hb⟩, htop⟩
    · by_cases h : i < n0
      · rw [← hag i h]; have := he.lt i h; omega
      · rw [hnw i (by omega)]; omega
    · by_cases h : i < n0 <;> by_cases h' : k < n0
      · rw [← hag i h, ← hag k h'] at e; exact he.inj i k h h' e
      · rw [← hag i h, hnw k (by omega)] at e; have := he.lt i h; omega
      · rw [← hag k h', hnw i (by omega)] at e; have := he.lt k h'; omega
      · rw [hnw i (by omega), hnw k (by omega)] at e; omega
    · have hi : i < n1 := by
        rcases Nat.lt_or_ge i n1 with g | g
        · exact g
        · rw [htop i g] at hb; cases hb
      by_cases h : i < n0
      · rw [← hag i h, hold _ (he.lt i h)]
        rw [hkeep i h] at hb
        obtain ⟨g1, g2⟩ := he.blk i b hb
        rw [g1, renB_congr hag g2]
      · rw [hnw i (by omega), hH', if_pos (by omega)]
        have : n0 + (nx + (i - n0) - nx) = i := by omega
        rw [this, hb]; rfl
  refine ⟨H', ⟨hcs.1, fun F args' w hr hva => ?_⟩, hold, hemb⟩
  -- the heap as the run sees it
  have hr0 : HR (unF n0 ρ F) H0 n0 w := by
    refine ⟨fun i b hi hb => ?_, fun i j bi bj ti tj hi hj gi gj fi fj e => ?_, fun i hi => by simp [unF]; omega, he.top, ⟨hr.gl.1, fun x hx ⟨i, k, t, hi, hg, hrk, hF, e⟩ => ?_⟩⟩
    · obtain ⟨g1, g2⟩ := he.blk i b hb
      obtain ⟨t, hF, hbr⟩ := hr.blk (ρ i) _ (he.lt i hi) g1
      exact ⟨t, by simp [unF, hi, hF], hbr.un g2⟩
    · obtain ⟨g1, g2⟩ := he.blk i bi gi
      obtain ⟨g3, g4⟩ := he.blk j bj gj
      simp only [unF, hi, hj, if_true] at fi fj
      rcases hr.inj (ρ i) (ρ j) _ _ ti tj (he.lt i hi) (he.lt j hj) g1 g3 fi fj e with h | h
      · exact .inl (he.inj i j hi hj h)
      · rw [renB_rom, renB_rom] at h; exact .inr h
    · obtain ⟨g1, g2⟩ := he.blk i k hg
      simp only [unF, hi, if_true] at hF
      exact hr.gl.2 x hx ⟨ρ i, _, t, he.lt i hi, g1, by rw [renB_rom]; exact hrk, hF, e⟩
  refine (hcs.2 _ args' w hr0 (VL.un ha hva)).mono fun e w' ⟨v', F1, h1, hvr, hst⟩ => ?_
  -- the addresses behind
  let F' : FM := fun j => if j < nx then F j else if j < nx + (n1 - n0) then F1 (n0 + (j - nx)) else none
  have hF1 : ∀ i t, F1 i = some t → F' (newρ ρ n0 nx i) = some t := by
    intro i t hi
    have hin : i < n1 := by
      rcases Nat.lt_or_ge i n1 with g | g
      · exact g
      · rw [hst.hr.fresh i g] at hi; cases hi
    by_cases h : i < n0
    · have := hst.ext i h
      rw [hi] at this
      simp only [unF, h, if_true] at this
      rw [← hag i h]
      show (if ρ i < nx then F (ρ i) else _) = some t
      rw [if_pos (he.lt i h), ← this]
    · rw [hnw i (by omega)]
      show (if nx + (i - n0) < nx then _ else if nx + (i - n0) < nx + (n1 - n0) then F1 (n0 + (nx + (i - n0) - nx)) else none) = some t
      rw [if_neg (by omega), if_pos (by omega)]
      have : n0 + (nx + (i - n0) - nx) = i := by omega
      rw [this, hi]
  have hFo : ∀ j, j < nx → F' j = F j := fun j hj => by show (if j < nx then F j else _) = _; rw [if_pos hj]
  have hFle : F.le F' := fun j t hj => by
    have : j < nx := hr.hb.lt hj
    rw [hFo j this]; exact hj
  have hFn : ∀ j, nx ≤ j → j < nx + (n1 - n0) → F' j = F1 (n0 + (j - nx)) := fun j h h' => by
    show (if j < nx then _ else if j < nx + (n1 - n0) then F1 (n0 + (j - nx)) else none) = _
    rw [if_neg (by omega), if_pos h']
  have own0 : ∀ b, Own (unF n0 ρ F) H0 n0 b → Own F H nx b := by
    rintro b ⟨i, k, t, hi, hg, hrk, hF, e⟩
    simp only [unF, hi, if_true] at hF
    exact ⟨ρ i, _, t, he.lt i hi, (he.blk i k hg).1, by rw [renB_rom]; exact hrk, hF, e⟩
  -- each name of the heap behind: an old one, or one of the run's
  have look : ∀ j b, getH H' j = some b → (j < nx ∧ getH H j = some b) ∨ ∃ i b0, n0 ≤ i ∧ i < n1 ∧ j = nx + (i - n0) ∧ getH H1 i = some b0 ∧ b = renB (newρ ρ n0 nx) b0 := by
    intro j b hb
    rw [hH'] at hb
    by_cases h : nx ≤ j ∧ j < nx + (n1 - n0)
    · rw [if_pos h] at hb
      cases hq : getH H1 (n0 + (j - nx)) with
      | none => rw [hq] at hb; cases hb
      | some b0 => rw [hq] at hb; cases hb; exact .inr ⟨n0 + (j - nx), b0, by omega, by omega, by omega, hq, rfl⟩
    · rw [if_neg h] at hb
      exact .inl ⟨hr.low hb, hb⟩
  have old : ∀ j b t, j < nx → getH H j = some b → F j = some t → BR F t b w → BR F' t b w' := by
    intro j b t hj hb hF hbr
    by_cases hown : Own (unF n0 ρ F) H0 n0 t.blk
    · obtain ⟨i, k, u, hi, hg, hrk, hFu, e⟩ := hown
      simp only [unF, hi, if_true] at hFu
      obtain ⟨g1, g2⟩ := he.blk i k hg
      rcases hr.inj (ρ i) j _ _ u t (he.lt i hi) hj g1 hb hFu hF e with h | h
      · subst h
        rw [g1] at hb; cases hb
        obtain ⟨t1, ht1, hb1⟩ := hst.hr.blk i k (by omega) (by rw [hkeep i hi]; exact hg)
        have hF1i := hF1 i t1 ht1
        rw [← hag i hi, hFo _ hj, hF] at hF1i
        cases hF1i
        have := hb1.re hF1
        rw [← renB_congr hag g2] at this
        exact this
      · rw [renB_rom, hrk] at h; cases h.1
    · exact hbr.mono hFle (hst.frame _ hbr.lt hown)
  have newB : ∀ i b0, n0 ≤ i → i < n1 → getH H1 i = some b0 → ∃ t, F1 i = some t ∧ F' (nx + (i - n0)) = some t ∧ BR F' t (renB (newρ ρ n0 nx) b0) w' ∧ b0.isRom = false := by
    intro i b0 h0 hi hb
    obtain ⟨t, ht, hbr⟩ := hst.hr.blk i b0 hi hb
    refine ⟨t, ht, ?_, hbr.re hF1, lowB_rom (hl i b0 hb)⟩
    have := hF1 i t ht
    rwa [hnw i h0] at this
  have fresh1 : ∀ i t, n0 ≤ i → i < n1 → F1 i = some t → (∃ b0, getH H1 i = some b0) → w.heap.size ≤ t.blk ∨ Own F H nx t.blk := by
    rintro i t h0 hi hF ⟨b0, hb⟩
    rcases hst.own t.blk ⟨i, b0, t, hi, hb, lowB_rom (hl i b0 hb), hF, rfl⟩ with h | h
    · exact .inr (own0 _ h)
    · exact .inl h
  refine ⟨v', F', h1, hvr.re hF1, ⟨by omega, hFo, hst.os, hst.tape, hst.output, hst.size, fun b hb hno => hst.frame b hb fun h => hno (own0 b h), ?_, fun j hj hn => by rw [hold j hj]; exact hn, ?_, ?_⟩⟩
  · rintro b ⟨j, k, t, hj, hg, hrk, hF, rfl⟩
    rcases look j k hg with ⟨hjx, hgj⟩ | ⟨i, b0, hi0, hi1, rfl, hb0, rfl⟩
    · rw [hFo j hjx] at hF; exact .inl ⟨j, k, t, hjx, hgj, hrk, hF, rfl⟩
    · obtain ⟨t1, ht1, hF', _, _⟩ := newB i b0 hi0 hi1 hb0
      rw [hF'] at hF; cases hF
      exact (fresh1 i t hi0 hi1 ht1 ⟨b0, hb0⟩).symm
  · intro j b hg hrb
    rcases look j b hg with ⟨hjx, hgj⟩ | ⟨i, b0, hi0, hi1, rfl, hb0, rfl⟩
    · exact ⟨hjx, hgj⟩
    · rw [renB_rom, lowB_rom (hl i b0 hb0)] at hrb; cases hrb
  · refine ⟨fun j b hj hg => ?_, fun j k bj bk tj tk hj hk gj gk fj fk e => ?_, fun j hj => ?_, fun j hj => ?_, ?_⟩
    · rcases look j b hg with ⟨hjx, hgj⟩ | ⟨i, b0, hi0, hi1, rfl, hb0, rfl⟩
      · obtain ⟨t, hF, hbr⟩ := hr.blk j b hjx hgj
        exact ⟨t, by rw [hFo j hjx]; exact hF, old j b t hjx hgj hF hbr⟩
      · obtain ⟨t, _, hF', hbr, _⟩ := newB i b0 hi0 hi1 hb0
        exact ⟨t, hF', hbr⟩
    · -- two names for one block
      have mix : ∀ i b0 q bq tq, n0 ≤ i → i < n1 → getH H1 i = some b0 → F' (nx + (i - n0)) = some tj → q < nx → getH H q = some bq → F q = some tq → tj.blk = tq.blk → False := by
        intro i b0 q bq tq hi0 hi1 hb0 hF' hq hgq hFq e
        obtain ⟨t1, ht1, hF2, _, hr0'⟩ := newB i b0 hi0 hi1 hb0
        rw [hF2] at hF'; cases hF'
        obtain ⟨tq', hq', hbq⟩ := hr.blk q bq hq hgq
        rw [hFq] at hq'; cases hq'
        have hlt := hbq.lt
        rcases hst.own tj.blk ⟨i, b0, tj, hi1, hb0, hr0', ht1, rfl⟩ with h | h
        · obtain ⟨i', k', u, hi', hg', hrk', hFu, eu⟩ := h
          simp only [unF, hi', if_true] at hFu
          obtain ⟨g1, g2⟩ := he.blk i' k' hg'
          rcases hr.inj (ρ i') q _ _ u tq (he.lt i' hi') hq g1 hgq hFu hFq (by omega) with h | h
          · -- then the run has two names for it
            have hk1 : getH H1 i' = some k' := by rw [hkeep i' hi']; exact hg'
            obtain ⟨u1, hu1, _⟩ := hst.hr.blk i' k' (by omega) hk1
            have hue := hst.ext i' hi'
            simp only [unF, hi', if_true] at hue
            rw [hue, hFu] at hu1; cases hu1
            rcases hst.hr.inj i i' b0 k' tj u hi1 (by omega) hb0 hk1 ht1 (by rw [hue, hFu]) eu.symm with h | h
            · omega
            · rw [hr0'] at h; cases h.1
          · rw [renB_rom, hrk'] at h; cases h.1
        · omega
      rcases look j bj gj with ⟨hjx, hgj⟩ | ⟨i, b0, hi0, hi1, rfl, hb0, rfl⟩ <;> rcases look k bk gk with ⟨hkx, hgk⟩ | ⟨i', b0', hi0', hi1', rfl, hb0', rfl⟩
      · rw [hFo j hjx] at fj; rw [hFo k hkx] at fk
        exact hr.inj j k bj bk tj tk hjx hkx hgj hgk fj fk e
      · exfalso
        rw [hFo j hjx] at fj
        have mix' : ∀ i b0 q bq tq, n0 ≤ i → i < n1 → getH H1 i = some b0 → F' (nx + (i - n0)) = some tk → q < nx → getH H q = some bq → F q = some tq → tk.blk = tq.blk → False := by
          intro i b0 q bq tq hi0 hi1 hb0 hF' hq hgq hFq e
          obtain ⟨t1, ht1, hF2, _, hr0'⟩ := newB i b0 hi0 hi1 hb0
          rw [hF2] at hF'; cases hF'
          obtain ⟨tq', hq', hbq⟩ := hr.blk q bq hq hgq
          rw [hFq] at hq'; cases hq'
          have hlt := hbq.lt
          rcases hst.own tk.blk ⟨i, b0, tk, hi1, hb0, hr0', ht1, rfl⟩ with h | h
          · obtain ⟨i', k', u, hi', hg', hrk', hFu, eu⟩ := h
            simp only [unF, hi', if_true] at hFu
            obtain ⟨g1, g2⟩ := he.blk i' k' hg'
            rcases hr.inj (ρ i') q _ _ u tq (he.lt i' hi') hq g1 hgq hFu hFq (by omega) with h | h
            · have hk1 : getH H1 i' = some k' := by rw [hkeep i' hi']; exact hg'
              obtain ⟨u1, hu1, _⟩ := hst.hr.blk i' k' (by omega) hk1
              have hue := hst.ext i' hi'
              simp only [unF, hi', if_true] at hue
              rw [hue, hFu] at hu1; cases hu1
              rcases hst.hr.inj i i' b0 k' tk u hi1 (by omega) hb0 hk1 ht1 (by rw [hue, hFu]) eu.symm with h | h
              · omega
              · rw [hr0'] at h; cases h.1
            · rw [renB_rom, hrk'] at h; cases h.1
          · omega
        exact mix' i' b0' j bj tj hi0' hi1' hb0' fk hjx hgj fj e.symm
      · exfalso
        rw [hFo k hkx] at fk
        exact mix i b0 k bk tk hi0 hi1 hb0 fj hkx hgk fk e
      · obtain ⟨t1, ht1, hF2, _, hra⟩ := newB i b0 hi0 hi1 hb0
        rw [hF2] at fj; cases fj
        obtain ⟨t2, ht2, hF3, _, hrb⟩ := newB i' b0' hi0' hi1' hb0'
        rw [hF3] at fk; cases fk
        rcases hst.hr.inj i i' b0 b0' tj tk hi1 hi1' hb0 hb0' ht1 ht2 e with h | h
        · exact .inl (by rw [h])
        · rw [hra] at h; cases h.1
    · show (if j < nx then _ else if j < nx + (n1 - n0) then _ else none) = none
      rw [if_neg (by omega), if_neg (by omega)]
    · rw [hH', if_neg (by omega)]; exact hr.top j (by omega)
    · refine hr.gl.step (fun b hb hno => hst.frame b hb fun h => hno (own0 b h)) ?_
      rintro b ⟨j, k, t, hj, hg, hrk, hF, rfl⟩
      rcases look j k hg with ⟨hjx, hgj⟩ | ⟨i, b0, hi0, hi1, rfl, hb0, rfl⟩
      · rw [hFo j hjx] at hF; exact .inl ⟨j, k, t, hjx, hgj, hrk, hF, rfl⟩
      · obtain ⟨t1, ht1, hF', _, _⟩ := newB i b0 hi0 hi1 hb0
        rw [hF'] at hF; cases hF
        exact (fresh1 i t hi0 hi1 ht1 ⟨b0, hb0⟩).symm
end Go.Clo
