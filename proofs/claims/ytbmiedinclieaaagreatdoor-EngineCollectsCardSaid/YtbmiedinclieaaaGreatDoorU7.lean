/-
  Maps from ints: the keys, in the order in which they stand, and the value of each.
  Contracts: snapshot.Store's with, At, Versions.
  Plain: the versions that are available after i batches, when the versions below 41 are pinned c times each.
  The update of each batch, as blocks.
  What the open part of the law leans on: the closed runs of the store, of one database's update, of its rows; an engine's cells.
-/
import Derived.Test.YtbmiedinclieaaaGreatDoorU6
import Derived.MapKept
import Derived.Test.YtbmiedinclieaaaGreatDoorU5
import Derived.Test.YtbmiedinclieaaaGreatDoorU4
import Derived.Test.YtbmiedinclieaaaGreatDoorU1
import Derived.Test.YtbmiedinclieaaaGreatDoorU3
set_option linter.all false
namespace Go.Proofs.YtbmiedinclieaaaGreatDoor
open Go.Clo

def kN (v : Nat) : Value := .int .i64 (v : Int)
def entN (val : Nat → Value) (e : MapEntry) (v : Nat) : Prop := e.key = kN v ∧ e.val = val v
def IntM (H : Heap) (r : Nat) (ks : List Nat) (val : Nat → Value) : Prop :=
  ∃ es c, getH H r = some (.map es c) ∧ es.length = ks.length ∧ ∀ (j : Nat) (e : MapEntry) (v : Nat), es[j]? = some e → ks[j]? = some v → e.key = kN v ∧ e.val = val v
theorem IntM.same {H H' : Heap} {r : Nat} {ks : List Nat} {val : Nat → Value} (h : IntM H r ks val) (e : getH H' r = getH H r) : IntM H' r ks val := by
  obtain ⟨es, c, h1, h2, h3⟩ := h
  exact ⟨es, c, by rw [e]; exact h1, h2, h3⟩
theorem IntM.ext {H : Heap} {nx r : Nat} {ks : List Nat} {val : Nat → Value} {H' : Heap} {nx' : Nat} (h : IntM H r ks val) (hr : r < nx) (e : Ext H nx H' nx') : IntM H' r ks val := h.same (e.get r hr)
theorem IntM.congr {H : Heap} {r : Nat} {ks : List Nat} {val val' : Nat → Value} (h : IntM H r ks val) (e : ∀ v ∈ ks, val v = val' v) : IntM H r ks val' := by
  obtain ⟨es, c, h1, h2, h3⟩ := h
  exact ⟨es, c, h1, h2, fun j x v hx hv => ⟨(h3 j x v hx hv).1, by rw [(h3 j x v hx hv).2]; exact e v (List.mem_of_getElem? hv)⟩⟩
theorem kN_inj {a b : Nat} (h : kN a = kN b) : a = b := by
  unfold kN at h
  injection h with h1 h2
  exact Int.ofNat.inj h2
theorem ent_at {es : List MapEntry} {ks : List Nat} (h2 : es.length = ks.length) {j : Nat} {e : MapEntry} (h : es[j]? = some e) : ∃ v, ks[j]? = some v := by
  have := (List.getElem?_eq_some_iff.1 h).1
  exact ⟨ks[j], List.getElem?_eq_getElem (by omega)⟩
theorem find_kN {es : List MapEntry} {ks : List Nat} {val : Nat → Value} (h2 : es.length = ks.length) (h3 : ∀ (j : Nat) (e : MapEntry) (v : Nat), es[j]? = some e → ks[j]? = some v → e.key = kN v ∧ e.val = val v) (v : Nat) :
    (v ∉ ks ∧ Instr.findNow (.int .i64) (kN v) es 0 = some none) ∨ (v ∈ ks ∧ ∃ j e, Instr.findNow (.int .i64) (kN v) es 0 = some (some (j, val v)) ∧ es[j]? = some e ∧ ks[j]? = some v) := by
  rcases MapKept.findNow_spec (d := .int .i64) (k := kN v) rfl es 0 (fun x hx => by
    obtain ⟨j, hj⟩ := List.mem_iff_getElem?.1 hx
    obtain ⟨z, hz⟩ := ent_at h2 hj
    rw [(h3 j x z hj hz).1]; rfl) with ⟨h, hn⟩ | ⟨j, e, h, hj, hke⟩
  · refine .inl ⟨fun hs => ?_, h⟩
    obtain ⟨j, hj⟩ := List.mem_iff_getElem?.1 hs
    have hjl := (List.getElem?_eq_some_iff.1 hj).1
    have hje : es[j]? = some es[j] := List.getElem?_eq_getElem (by omega)
    exact hn _ (List.mem_of_getElem? hje) (h3 j _ v hje hj).1
  · obtain ⟨z, hz⟩ := ent_at h2 hj
    have g := h3 j e z hj hz
    have hzv : z = v := kN_inj (g.1.symm.trans hke)
    subst hzv
    exact .inr ⟨List.mem_of_getElem? hz, j, e, by rw [h, Nat.zero_add, g.2], hj, hz⟩
theorem IntM.lk {H : Heap} {r : Nat} {ks : List Nat} {val : Nat → Value} (h : IntM H r ks val) {v : Nat} (hv : v ∈ ks) (zero : Value) (k : VP) : wLk (.int .i64) zero (.map (some r)) (.int .i64 (v : Int)) true H k = k (.tuple ⟨[val v, .bool true]⟩) := by
  obtain ⟨es, c, h1, h2, h3⟩ := h
  unfold wLk
  rw [show keyKind (.int .i64) (.int .i64 (v : Int)) = true from rfl]
  simp only [cond_true]
  rw [getB_eq, h1]
  simp only [Option.elim_some]
  rcases find_kN h2 h3 v with ⟨hn, _⟩ | ⟨_, j, e, hf, _⟩
  · exact absurd hv hn
  · rw [show Value.int .i64 (v : Int) = kN v from rfl, hf]; first | done | rfl
theorem IntM.lk1 {H : Heap} {r : Nat} {ks : List Nat} {val : Nat → Value} (h : IntM H r ks val) {v : Nat} (hv : v ∈ ks) (zero : Value) (k : VP) : wLk (.int .i64) zero (.map (some r)) (.int .i64 (v : Int)) false H k = k (val v) := by
  obtain ⟨es, c, h1, h2, h3⟩ := h
  unfold wLk
  rw [show keyKind (.int .i64) (.int .i64 (v : Int)) = true from rfl]
  simp only [cond_true]
  rw [getB_eq, h1]
  simp only [Option.elim_some]
  rcases find_kN h2 h3 v with ⟨hn, _⟩ | ⟨_, j, e, hf, _⟩
  · exact absurd hv hn
  · rw [show Value.int .i64 (v : Int) = kN v from rfl, hf]; first | done | rfl
theorem IntM.miss {H : Heap} {r : Nat} {ks : List Nat} {val : Nat → Value} (h : IntM H r ks val) {v : Nat} (hv : v ∉ ks) (zero : Value) (k : VP) : wLk (.int .i64) zero (.map (some r)) (.int .i64 (v : Int)) true H k = k (.tuple ⟨[zero, .bool false]⟩) := by
  obtain ⟨es, c, h1, h2, h3⟩ := h
  unfold wLk
  rw [show keyKind (.int .i64) (.int .i64 (v : Int)) = true from rfl]
  simp only [cond_true]
  rw [getB_eq, h1]
  simp only [Option.elim_some]
  rcases find_kN h2 h3 v with ⟨_, hf⟩ | ⟨hn, _⟩
  · rw [show Value.int .i64 (v : Int) = kN v from rfl, hf]; first | done | rfl
  · exact absurd hn hv
theorem IntM.len {H : Heap} {r : Nat} {ks : List Nat} {val : Nat → Value} (h : IntM H r ks val) (k : VP) : wLen (.map (some r)) 2 H k = k (.int .i64 (ks.length : Int)) := by
  obtain ⟨es, c, h1, h2, h3⟩ := h
  unfold wLen
  simp only []
  rw [getB_eq, h1]
  simp only [Option.elim_some]
  rw [forceN_eq, h2]
  rfl
/-- A new key. -/
theorem IntM.put {H : Heap} {nx r : Nat} {ks : List Nat} {val : Nat → Value} (h : IntM H r ks val) {v : Nat} (hv : v ∉ ks) (x : Value) {k : EP} (hk : ∀ b, IntM (hs H r (some b)) r (ks ++ [v]) (fun u => if u = v then x else val u) → k undef (hs H r (some b)) nx) :
    wUpd (.int .i64) (.map (some r)) (.int .i64 (v : Int)) x H nx k := by
  obtain ⟨es, c, h1, h2, h3⟩ := h
  unfold wUpd
  dsimp only
  rw [getB_eq, h1]
  simp only [Option.elim_some, updK]
  rw [show keyKind (.int .i64) (.int .i64 (v : Int)) = true from rfl]
  rcases find_kN h2 h3 v with ⟨_, hf⟩ | ⟨hn, _⟩
  · rw [show Value.int .i64 (v : Int) = kN v from rfl, hf]
    simp only [cond_true]
    rw [spine_eq, forceN_eq, hsK_eq]
    refine hk _ ⟨_, _, getH_same _ _ _, by simp [h2], fun j e u he hu => ?_⟩
    by_cases hj : j < es.length
    · rw [List.getElem?_append_left hj] at he
      rw [List.getElem?_append_left (by omega)] at hu
      have g := h3 j e u he hu
      have hne : u ≠ v := fun e => hv (e ▸ List.mem_of_getElem? hu)
      exact ⟨g.1, by simp only [if_neg hne]; exact g.2⟩
    · rw [List.getElem?_append_right (by omega)] at he
      rw [List.getElem?_append_right (by omega), ← h2] at hu
      match hjj : j - es.length, he, hu with
      | 0, he, hu =>
        simp at he hu
        subst he; subst hu
        exact ⟨rfl, by simp⟩
      | n + 1, he, hu => simp at he
  · exact absurd hn hv
/-- A key that is there. -/
theorem IntM.set {H : Heap} {nx r : Nat} {ks : List Nat} {val : Nat → Value} (h : IntM H r ks val) (hnd : ks.Nodup) {v : Nat} (hv : v ∈ ks) (x : Value) {k : EP} (hk : ∀ b, IntM (hs H r (some b)) r ks (fun u => if u = v then x else val u) → k undef (hs H r (some b)) nx) :
    wUpd (.int .i64) (.map (some r)) (.int .i64 (v : Int)) x H nx k := by
  obtain ⟨es, c, h1, h2, h3⟩ := h
  unfold wUpd
  dsimp only
  rw [getB_eq, h1]
  simp only [Option.elim_some, updK]
  rw [show keyKind (.int .i64) (.int .i64 (v : Int)) = true from rfl]
  rcases find_kN h2 h3 v with ⟨hn, _⟩ | ⟨_, j, e, hf, hj, hjv⟩
  · exact absurd hv hn
  · rw [show Value.int .i64 (v : Int) = kN v from rfl, hf]
    simp only [cond_true]
    rw [nth_eq, hj]
    simp only
    rw [spine_eq, hsK_eq, setNth_eq]
    have hjl := (List.getElem?_eq_some_iff.1 hj).1
    refine hk _ ⟨_, _, getH_same _ _ _, by simp [h2], fun i y u hy hu => ?_⟩
    by_cases hij : j = i
    · subst hij
      rw [List.getElem?_set_self hjl] at hy
      rw [hjv] at hu
      cases hy; cases hu
      exact ⟨rfl, by simp⟩
    · rw [List.getElem?_set_ne hij] at hy
      have g := h3 i y u hy hu
      have hne : u ≠ v := fun e => hij (by
        subst e
        obtain ⟨a1, a2⟩ := List.getElem?_eq_some_iff.1 hjv
        obtain ⟨b1, b2⟩ := List.getElem?_eq_some_iff.1 hu
        exact (List.getElem_inj hnd).1 (a2.trans b2.symm))
      exact ⟨g.1, by simp only [if_neg hne]; exact g.2⟩
theorem keyI_kN {e : MapEntry} {v : Nat} (h : e.key = kN v) (hv : v ≤ 1000000) : keyI e = some (v : Int) := by
  unfold keyI
  rw [h]
  show cond (Nat.ble v 1000000) (some (Int.ofNat v)) none = _
  rw [bltrue hv]; rfl
theorem keysI_kN {val : Nat → Value} : ∀ {es : List MapEntry} {ks : List Nat}, es.length = ks.length → (∀ (j : Nat) (e : MapEntry) (v : Nat), es[j]? = some e → ks[j]? = some v → e.key = kN v ∧ e.val = val v) → (∀ v ∈ ks, v ≤ 1000000) →
    keysI es = some (ks.map fun (v : Nat) => (v : Int))
  | [], [], _, _, _ => rfl
  | [], _ :: _, h, _, _ => by simp at h
  | _ :: _, [], h, _, _ => by simp at h
  | e :: es, v :: ks, h, h3, hle => by
    have h1 := keyI_kN (h3 0 e v rfl rfl).1 (hle v List.mem_cons_self)
    have h2 := keysI_kN (es := es) (ks := ks) (by simpa using h) (fun j x u hx hu => h3 (j + 1) x u (by simpa using hx) (by simpa using hu)) (fun u hu => hle u (List.mem_cons_of_mem _ hu))
    show (match keyI e, keysI es with | some s, some l => some (s :: l) | _, _ => none) = _
    rw [h1, h2]; rfl
end Go.Proofs.YtbmiedinclieaaaGreatDoor

namespace Go.Proofs.YtbmiedinclieaaaGreatDoor
open Go.Clo

/-- maps.Clone of the versions. -/
def CloneOK : Prop := ∀ (r : Nat) (es : List MapEntry) (c : Nat) (H : Heap) (nx : Nat), getH H r = some (.map es c) → CS Tryz.prog 74 [.map (some r)] H nx (.map (some nx)) (hs H nx (some (.map es c))) (nx + 1)
/-- len(s.Versions()) has the versions. -/
def SortedOK : Prop := ∀ (r : Nat) (ks : List Nat) (val : Nat → Value) (H : Heap) (nx : Nat), IntM H r ks val → r < nx → (∀ v ∈ ks, v ≤ 1000000) → ks.length ≤ 1000 → Ans Tryz.prog 73 [.map (some r)] H nx fun v H' nx' => Ext H nx H' nx' ∧ Ans Tryz.prog 72 [v] H' nx' fun v2 H2 n2 => ∃ A c, v2 = .slice A ks.length c ∧ Ext H' nx' H2 n2
theorem wLd_1 (b o : Nat) (H : Heap) (k : VP) : wLd (.pointer (some ⟨b, o, none⟩)) (some 1) H k = ldP (getH H b) o (some 1) k := wLd_some b o 0 H k
theorem cellP_11 (x : Value) (k : VP) : cellP [x] 0 (some 1) k = k (.agg ⟨[x]⟩) := cellP_lit (l := [x]) k
theorem cellP_12 (x y : Value) (k : VP) : cellP [x, y] 0 (some 1) k = k (.agg ⟨[x]⟩) := by rw [cellP_agg]; simp
theorem putL_lit1 (a x : Value) : putL [a] 0 [x] = [x] := rfl
theorem wBuild_st (a : Option Nat) (x : Int) (k : VP) : wBuild [.map none, .int .i64 0] [(0, 1), (1, 1)] [(0, .map a), (1, .int .i64 x)] k = k (.agg ⟨[.map a, .int .i64 x]⟩) := spine_eq _ _
theorem wBuild_v1 (a : Option Nat) (k : VP) : wBuild [.map none, .int .i64 0] [(0, 1), (1, 1)] [(0, .agg ⟨[.map a]⟩)] k = k (.agg ⟨[.map a, .int .i64 0]⟩) := spine_eq _ _
theorem wBuild_d0 (k : VP) : wBuild [.map none] [(0, 1)] [] k = k (.agg ⟨[.map none]⟩) := spine_eq _ _
/-- A version's value: its database and its pins. -/
def verV (d : Nat) (p : Nat) : Value := .agg ⟨[.map (some d), .int .i64 (p : Int)]⟩

theorem with76 (hcl : CloneOK) {r : Nat} {l : Int} {v : Nat} {d : Option Nat} {p : Int} {ks : List Nat} {val : Nat → Value} {H : Heap} {nx : Nat} (hm : IntM H r ks val) (hr : r < nx) (hnd : ks.Nodup) :
    Ans Tryz.prog 76 [.agg ⟨[.map (some r), .int .i64 l]⟩, .int .i64 (v : Int), .agg ⟨[.map d, .int .i64 p]⟩] H nx fun y H' nx' => ∃ q, nx ≤ q ∧ q < nx' ∧ y = .agg ⟨[.map (some q), .int .i64 l]⟩ ∧
      IntM H' q (if v ∈ ks then ks else ks ++ [v]) (fun u => if u = v then .agg ⟨[.map d, .int .i64 p]⟩ else val u) ∧ Ext H nx H' nx' := by
  refine spec76 ?_
  unfold F76
  simp only [W1]
  have x1 : Ext H nx (hs H nx (some (.cells [.map (some r), .int .i64 l] 0))) (nx + 1) := (Ext.refl _ _).new _ (Nat.le_refl _) (by omega)
  have x2 := x1.new (m := nx + 1 + 1) (i := nx + 1) (some (.cells [.map d, .int .i64 p] 0)) (by omega) (by omega)
  have x3 := x2.new (m := nx + 1 + 1 + 1) (i := nx + 1 + 1) (some (.cells [.map none, .int .i64 0] 0)) (by omega) (by omega)
  have hm3 := hm.ext hr x3
  simp (disch := first|omega|assumption) only [W0, oneCells, Yld.val, Nat.reduceAdd, Nat.reduceMul, Nat.reduceLeDiff]
  revert x3 hm3
  generalize hK : Go.Clo.hs (Go.Clo.hs (Go.Clo.hs H nx _) (nx + 1) _) (nx + 1 + 1) _ = K
  intro x3 hm3
  have a0 : getH K nx = some (.cells [.map (some r), .int .i64 l] 0) := by rw [← hK]; simp (disch := omega) only [getH_ne, getH_same]
  have a1 : getH K (nx + 1) = some (.cells [.map d, .int .i64 p] 0) := by rw [← hK]; simp (disch := omega) only [getH_ne, getH_same]
  have a2 : getH K (nx + 1 + 1) = some (.cells [.map none, .int .i64 0] 0) := by rw [← hK]; simp (disch := omega) only [getH_same]
  clear hK x1 x2
  obtain ⟨es, c, g1, g2, g3⟩ := hm3
  refine wCall_rule (Q := fun v H' nx' => .map (some (nx + 1 + 1 + 1)) = v ∧ H' = hs K (nx + 1 + 1 + 1) (some (.map es c)) ∧ nx' = nx + 1 + 1 + 1 + 1) ⟨_, _, _, hcl r es c _ _ g1, rfl, rfl, rfl⟩ ?_
  rintro _ _ _ ⟨rfl, rfl, rfl⟩
  have x4 := x3.new (m := nx + 1 + 1 + 1 + 1) (i := nx + 1 + 1 + 1) (some (.map es c)) (by omega) (by omega)
  have hm4 : IntM (hs K (nx + 1 + 1 + 1) (some (.map es c))) (nx + 1 + 1 + 1) ks val := ⟨es, c, getH_same _ _ _, g2, g3⟩
  have fin : ∀ (ks' : List Nat) (b : Blk), IntM (hs (hs K (nx + 1 + 1 + 1) (some (.map es c))) (nx + 1 + 1 + 1) (some b)) (nx + 1 + 1 + 1) ks' (fun u => if u = v then .agg ⟨[.map d, .int .i64 p]⟩ else val u) →
      ∃ q, nx ≤ q ∧ q < nx + 1 + 1 + 1 + 1 ∧ Value.agg ⟨[.map (some (nx + 1 + 1 + 1)), .int .i64 l]⟩ = .agg ⟨[.map (some q), .int .i64 l]⟩ ∧
      IntM (hs (hs (hs K (nx + 1 + 1 + 1) (some (.map es c))) (nx + 1 + 1 + 1) (some b)) (nx + 1 + 1) (some (.cells [.map (some (nx + 1 + 1 + 1)), .int .i64 l] 0))) q ks' (fun u => if u = v then .agg ⟨[.map d, .int .i64 p]⟩ else val u) ∧
      Ext H nx (hs (hs (hs K (nx + 1 + 1 + 1) (some (.map es c))) (nx + 1 + 1 + 1) (some b)) (nx + 1 + 1) (some (.cells [.map (some (nx + 1 + 1 + 1)), .int .i64 l] 0))) (nx + 1 + 1 + 1 + 1) := fun ks' b hI =>
    ⟨_, by omega, by omega, rfl, hI.same (getH_ne _ (by omega)), (x4.hs (by omega)).hs (by omega)⟩
  by_cases hv : v ∈ ks
  · simp (disch := first|omega|assumption) only [W0, oneCells, Yld.val, Nat.reduceAdd, Nat.reduceMul, Nat.reduceLeDiff, cellP_lit2, a1]
    refine hm4.set hnd hv _ fun b hI => ?_
    rw [if_pos hv]
    simp (disch := first|omega|assumption) only [W0, oneCells, Yld.val, Nat.reduceAdd, Nat.reduceMul, Nat.reduceLeDiff, cellP_lit2, wBuild_st, putL_lit2, a0, a1, a2]
    exact fin _ _ hI
  · simp (disch := first|omega|assumption) only [W0, oneCells, Yld.val, Nat.reduceAdd, Nat.reduceMul, Nat.reduceLeDiff, cellP_lit2, a1]
    refine hm4.put hv _ fun b hI => ?_
    rw [if_neg hv]
    simp (disch := first|omega|assumption) only [W0, oneCells, Yld.val, Nat.reduceAdd, Nat.reduceMul, Nat.reduceLeDiff, cellP_lit2, wBuild_st, putL_lit2, a0, a1, a2]
    exact fin _ _ hI
end Go.Proofs.YtbmiedinclieaaaGreatDoor

namespace Go.Clo

def pinned (c : Nat → Nat) : List Nat := (List.range 41).filter fun v => decide (0 < c v)
def avail (c : Nat → Nat) (i : Nat) : List Nat := if i ≤ 63 then List.range (i + 1) else pinned c ++ List.range' 63 (i - 62)
def bump (c : Nat → Nat) (v : Nat) : Nat → Nat := fun u => if u = v then c u + 1 else c u
def keepB (c : Nat → Nat) (v : Nat) : Bool := decide (0 < c v) || decide (v = 63)

theorem avail_low {c : Nat → Nat} {i : Nat} (h : i ≤ 63) : avail c i = List.range (i + 1) := if_pos h
theorem avail_high {c : Nat → Nat} {i : Nat} (h : 63 < i) : avail c i = pinned c ++ List.range' 63 (i - 62) := if_neg (by omega)
theorem avail_step {c : Nat → Nat} {i : Nat} (h : i ≠ 63) : avail c (i + 1) = avail c i ++ [i + 1] := by
  by_cases hi : i ≤ 63
  · rw [avail_low hi, avail_low (by omega), List.range_succ]
  · rw [avail_high (by omega), avail_high (by omega), show i + 1 - 62 = (i - 62) + 1 by omega, List.range'_concat, List.append_assoc]
    congr 3
    omega
theorem range_cut (m n : Nat) : List.range (m + n) = List.range m ++ List.range' m n := by
  rw [List.range_eq_range', List.range_eq_range', ← List.range'_append]
  simp
theorem keep_63 {c : Nat → Nat} (hc : ∀ v, 41 ≤ v → c v = 0) : (List.range 64).filter (keepB c) = pinned c ++ [63] := by
  rw [show (64 : Nat) = 41 + (22 + 1) by rfl, range_cut, List.filter_append, List.range'_concat, List.filter_append]
  have h1 : (List.range 41).filter (keepB c) = pinned c := by
    unfold pinned
    apply List.filter_congr
    intro v hv
    have := List.mem_range.1 hv
    simp [keepB]
    omega
  have h2 : (List.range' 41 22).filter (keepB c) = [] := by
    rw [List.filter_eq_nil_iff]
    intro v hv
    obtain ⟨h3, h4⟩ := List.mem_range'_1.1 hv
    simp [keepB, hc v h3]
    omega
  rw [h1, h2]
  simp [keepB]
theorem avail_64 {c : Nat → Nat} (hc : ∀ v, 41 ≤ v → c v = 0) : avail c 64 = (List.range 64).filter (keepB c) ++ [64] := by
  rw [keep_63 hc, avail_high (by omega), List.append_assoc]
  rfl
theorem avail_len_low {c : Nat → Nat} {i : Nat} (h : i ≤ 63) : (avail c i).length = i + 1 := by rw [avail_low h, List.length_range]
theorem avail_len_high {c : Nat → Nat} {i : Nat} (h : 63 < i) : (avail c i).length = (pinned c).length + (i - 62) := by rw [avail_high h, List.length_append, List.length_range']
theorem pinned_lt {c : Nat → Nat} {v : Nat} (h : v ∈ pinned c) : v < 41 := List.mem_range.1 (List.mem_filter.1 h).1
theorem avail_le {c : Nat → Nat} {i v : Nat} (h : v ∈ avail c i) : v ≤ i := by
  by_cases hi : i ≤ 63
  · rw [avail_low hi] at h; have := List.mem_range.1 h; omega
  · rw [avail_high (by omega)] at h
    rcases List.mem_append.1 h with h | h
    · have := pinned_lt h; omega
    · have := List.mem_range'_1.1 h; omega
theorem avail_last {c : Nat → Nat} {i : Nat} : i ∈ avail c i := by
  by_cases hi : i ≤ 63
  · rw [avail_low hi]; exact List.mem_range.2 (by omega)
  · rw [avail_high (by omega)]; exact List.mem_append_right _ (List.mem_range'_1.2 ⟨by omega, by omega⟩)
theorem avail_nodup (c : Nat → Nat) (i : Nat) : (avail c i).Nodup := by
  by_cases hi : i ≤ 63
  · rw [avail_low hi]; exact List.nodup_range
  · rw [avail_high (by omega), List.nodup_append]
    exact ⟨List.nodup_range.filter _, List.nodup_range', fun a ha b hb => by have := pinned_lt ha; have := List.mem_range'_1.1 hb; omega⟩
theorem pinned_zero : pinned (fun _ => 0) = [] := by simp [pinned]
theorem pinned_bump (c : Nat → Nat) (v : Nat) : (pinned (bump c v)).length ≤ (pinned c).length + 1 := by
  have key : ∀ l : List Nat, l.Nodup → (l.filter fun u => decide (0 < bump c v u)).length ≤ (l.filter fun u => decide (0 < c u)).length + 1 ∧ (v ∉ l → (l.filter fun u => decide (0 < bump c v u)).length = (l.filter fun u => decide (0 < c u)).length) := by
    intro l
    induction l with
    | nil => intro _; simp
    | cons a l ih =>
      intro hn
      obtain ⟨h1, h2⟩ := List.nodup_cons.1 hn
      obtain ⟨i1, i2⟩ := ih h2
      by_cases e : a = v
      · subst e
        have := i2 h1
        refine ⟨?_, fun h => absurd List.mem_cons_self h⟩
        simp only [List.filter_cons]
        split <;> split <;> (try simp only [List.length_cons]) <;> omega
      · have eb : bump c v a = c a := if_neg e
        simp only [List.filter_cons, eb]
        constructor
        · split <;> (try simp only [List.length_cons]) <;> omega
        · intro h
          have := i2 (fun hm => h (List.mem_cons_of_mem _ hm))
          split <;> (try simp only [List.length_cons]) <;> omega
  exact (key _ List.nodup_range).1
end Go.Clo

namespace Go.Proofs.YtbmiedinclieaaaGreatDoor
open Go.Clo
def sR : Value := .string ⟨#[114]⟩
def sE : Value := .string ⟨#[]⟩
def updV (a : Nat) : List Value := [.bool false, .string ⟨#[114]⟩, .slice (some ⟨a, 0, none⟩) 1 1]
def rowV (i : Nat) : List Value := [.int .i64 1, .int .i64 (i : Int), .string ⟨#[]⟩]
end Go.Proofs.YtbmiedinclieaaaGreatDoor

namespace Go.Proofs.YtbmiedinclieaaaGreatDoor
open Go.Clo

/-- U is the slice of the one update that inserts i; its blocks are among those that Av names. -/
def UpdAt (Av : Nat → Prop) (i : Nat) (U : Value) (H : Heap) (nx : Nat) : Prop :=
  ∃ a b, a < nx ∧ b < nx ∧ Av a ∧ Av b ∧ a ≠ b ∧ U = .slice (some ⟨b, 0, none⟩) 1 1 ∧ getH H a = some (.cells (rowV i) 0) ∧ getH H b = some (.cells (updV a) 0)
theorem UpdAt.ext {Av : Nat → Prop} {i : Nat} {U : Value} {H : Heap} {nx : Nat} {H' : Heap} {nx' : Nat} (h : UpdAt Av i U H nx) (e : Ext H nx H' nx') : UpdAt Av i U H' nx' := by
  obtain ⟨a, b, h1, h2, h3, h4, h5, h6, h7, h8⟩ := h
  exact ⟨a, b, Nat.lt_of_lt_of_le h1 e.le, Nat.lt_of_lt_of_le h2 e.le, h3, h4, h5, h6, by rw [e.get a h1]; exact h7, by rw [e.get b h2]; exact h8⟩
theorem UpdAt.more {Av Av' : Nat → Prop} {i : Nat} {U : Value} {H : Heap} {nx : Nat} (h : UpdAt Av i U H nx) (e : ∀ j, Av j → Av' j) : UpdAt Av' i U H nx := by
  obtain ⟨a, b, h1, h2, h3, h4, h5⟩ := h
  exact ⟨a, b, h1, h2, e _ h3, e _ h4, h5⟩
/-- An engine that is up: its store's sixteen cells, the map of its versions, the latest one. -/
def eng (S : List Value) (r : Nat) (l : Nat) : List Value :=
  .bool true :: .int .i64 0 :: .pointer none :: .pointer none :: .pointer none :: .int .i64 0 :: (S ++ [.map (some r), .int .i64 (l : Int)])
/-- The heap without one block. -/
noncomputable def kl (H : Heap) : Option Nat → Heap
  | none => H
  | some b => hs H b none
theorem getH_kl {H : Heap} {bb : Option Nat} {j : Nat} (h : ∀ b, bb = some b → j ≠ b) : getH (kl H bb) j = getH H j := by
  cases bb with
  | none => rfl
  | some b => exact getH_ne _ (h b rfl)
theorem ext_kl {H : Heap} {nx : Nat} {K : Heap} {m : Nat} (e : Ext H nx K m) (bb : Option Nat) : Ext (kl H bb) nx (kl K bb) m := by
  cases bb with
  | none => exact e
  | some b =>
    refine ⟨e.le, fun j hj => ?_⟩
    show getH (hs K b none) j = getH (hs H b none) j
    by_cases h : j = b
    · rw [h, getH_same, getH_same]
    · rw [getH_ne _ h, getH_ne _ h, e.get j hj]
theorem UpdAt.kl {Av : Nat → Prop} {i : Nat} {U : Value} {H : Heap} {nx : Nat} {bb : Option Nat} (h : UpdAt Av i U H nx) (hb : ∀ b, bb = some b → b < nx ∧ ¬ Av b) : UpdAt Av i U (kl H bb) nx := by
  obtain ⟨a, b, h1, h2, h3, h4, h5, h6, h7, h8⟩ := h
  exact ⟨a, b, h1, h2, h3, h4, h5, h6, by rw [getH_kl fun x hx e => (hb x hx).2 (e ▸ h3)]; exact h7, by rw [getH_kl fun x hx e => (hb x hx).2 (e ▸ h4)]; exact h8⟩
/-- Av's blocks, and the one that is to end. -/
def AvB (Av : Nat → Prop) (bb : Option Nat) : Nat → Prop := fun j => Av j ∨ bb = some j
/-- What the closed runs give (bb: the row of the batches, which the next batch makes an end of): StoreAt Av bb i S: the store after i batches has the cells S, and lies in the heap, but not in the blocks that Av names; DbAt Av i d: so the database with i rows. -/
structure Cl where
  StoreAt : (Nat → Prop) → Option Nat → Nat → List Value → Heap → Nat → Prop
  DbAt : (Nat → Prop) → Nat → Nat → Heap → Nat → Prop
  store_ext : ∀ {Av : Nat → Prop} {bb : Option Nat} {i : Nat} {S : List Value} {H : Heap} {nx : Nat} {H' : Heap} {nx' : Nat}, StoreAt Av bb i S H nx → nx ≤ nx' → (∀ j, j < nx → ¬ Av j → getH H' j = getH H j) → StoreAt Av bb i S H' nx'
  db_ext : ∀ {Av : Nat → Prop} {i d : Nat} {H : Heap} {nx : Nat} {H' : Heap} {nx' : Nat}, DbAt Av i d H nx → nx ≤ nx' → (∀ j, j < nx → ¬ Av j → getH H' j = getH H j) → DbAt Av i d H' nx'
  store_av : ∀ {Av Av' : Nat → Prop} {bb : Option Nat} {i : Nat} {S : List Value} {H : Heap} {nx : Nat}, StoreAt Av bb i S H nx → (∀ j, Av' j → Av j ∨ nx ≤ j) → StoreAt Av' bb i S H nx
  db_av : ∀ {Av Av' : Nat → Prop} {i d : Nat} {H : Heap} {nx : Nat}, DbAt Av i d H nx → (∀ j, Av' j → Av j ∨ nx ≤ j) → DbAt Av' i d H nx
  store_bb : ∀ {Av : Nat → Prop} {bb : Option Nat} {i : Nat} {S : List Value} {H : Heap} {nx : Nat}, StoreAt Av bb i S H nx → ∀ b, bb = some b → b < nx ∧ ¬ Av b
  store_len : ∀ {Av : Nat → Prop} {bb : Option Nat} {i : Nat} {S : List Value} {H : Heap} {nx : Nat}, StoreAt Av bb i S H nx → S.length = 16 ∧ oneCells S = true
  log : ∀ {Av : Nat → Prop} {bb : Option Nat} {i : Nat} {S : List Value} {U : Value} {H : Heap} {nx : Nat}, i < 93 → (∀ j, Av j → j < nx) → StoreAt Av bb i S H nx → UpdAt Av i U H nx →
    Ans Tryz.prog 30 [.agg ⟨S⟩, U] H nx fun v H' nx' => ∃ S' bb', v = .tuple ⟨[.agg ⟨S'⟩, .int .i64 0]⟩ ∧ StoreAt Av bb' (i + 1) S' H' nx' ∧ (∀ b, bb' = some b → nx ≤ b) ∧ Ext (kl H bb) nx H' nx'
  apply : ∀ {Av : Nat → Prop} {i d : Nat} {U : Value} {H : Heap} {nx : Nat}, i < 93 → (∀ j, Av j → j < nx) → DbAt Av i d H nx → UpdAt Av i U H nx →
    Ans Tryz.prog 68 [.agg ⟨[.map (some d)]⟩, U] H nx fun v H' nx' => ∃ d' n, v = .tuple ⟨[.agg ⟨[.map (some d')]⟩, .int .i64 n, .int .i64 0]⟩ ∧ DbAt Av (i + 1) d' H' nx' ∧ Ext H nx H' nx'
  rows : ∀ {Av : Nat → Prop} {i d : Nat} {H : Heap} {nx : Nat}, i ≤ 93 → DbAt Av i d H nx → Ans Tryz.prog 14 [.agg ⟨[.map (some d)]⟩] H nx fun v H' nx' => v = .int .i64 (i : Int) ∧ Ext H nx H' nx'
  create : ∀ {p q : Nat} {H : Heap} {nx : Nat}, p < nx → q < nx → p ≠ q → getH H q = some (.cells [.int .i64 1] 0) → getH H p = some (.cells [.string ⟨#[114]⟩, .slice (some ⟨q, 0, none⟩) 1 1] 0) →
    Ans Tryz.prog 5 [.slice (some ⟨p, 0, none⟩) 1 1] H nx fun v H' nx' => ∃ S r d, v = .tuple ⟨[.agg ⟨eng S r 0⟩, .int .i64 0]⟩ ∧ StoreAt (fun _ => False) none 0 S H' nx' ∧ DbAt (fun _ => False) 0 d H' nx' ∧ nx ≤ r ∧ r < nx' ∧ IntM H' r [0] (fun _ => verV d 0) ∧ Ext H nx H' nx'
theorem Cl.store_e (C : Cl) {Av : Nat → Prop} {bb : Option Nat} {i : Nat} {S : List Value} {H : Heap} {nx : Nat} {H' : Heap} {nx' : Nat} (h : C.StoreAt Av bb i S H nx) (e : Ext H nx H' nx') : C.StoreAt Av bb i S H' nx' := C.store_ext h e.le fun j hj _ => e.get j hj
theorem Cl.db_e (C : Cl) {Av : Nat → Prop} {i d : Nat} {H : Heap} {nx : Nat} {H' : Heap} {nx' : Nat} (h : C.DbAt Av i d H nx) (e : Ext H nx H' nx') : C.DbAt Av i d H' nx' := C.db_ext h e.le fun j hj _ => e.get j hj
/-- The blocks of Av, and those from lo to hi. -/
def AvU (Av : Nat → Prop) (lo hi : Nat) : Nat → Prop := fun j => Av j ∨ (lo ≤ j ∧ j < hi)

section
variable {S : List Value} (hS : S.length = 16) (r l : Nat)
include hS
theorem eng_len : (eng S r l).length = 24 := by simp [eng, hS]
theorem eng_0 (k : VP) : cellP (eng S r l) 0 none k = k (.bool true) := rfl
theorem eng_store (k : VP) : cellP (eng S r l) 6 (some 16) k = k (.agg ⟨S⟩) := by
  rw [cellP_agg, eng_len hS]
  have : ((eng S r l).drop 6).take 16 = S := by
    show (S ++ ([.map (some r), .int .i64 (l : Int)] : List Value)).take 16 = S
    rw [← hS, List.take_left']
    rfl
  rw [this]
  simp
theorem eng_vers (k : VP) : cellP (eng S r l) 22 (some 2) k = k (.agg ⟨[.map (some r), .int .i64 (l : Int)]⟩) := by
  rw [cellP_agg, eng_len hS]
  have : ((eng S r l).drop 22).take 2 = ([.map (some r), .int .i64 (l : Int)] : List Value) := by
    show ((S ++ ([.map (some r), .int .i64 (l : Int)] : List Value)).drop 16).take 2 = _
    rw [← hS, List.drop_left']
    · rfl
    · rfl
  rw [this]
  simp
theorem eng_state (k : VP) : cellP (eng S r l) 0 (some 6) k = k (.agg ⟨[.bool true, .int .i64 0, .pointer none, .pointer none, .pointer none, .int .i64 0]⟩) := by
  rw [cellP_agg, eng_len hS]
  simp [eng]
theorem eng_all (k : VP) : cellP (eng S r l) 0 (some 24) k = k (.agg ⟨eng S r l⟩) := by
  have := cellP_lit (l := eng S r l) k
  rw [eng_len hS] at this
  exact this
end
def zE : List Value := [.bool false, .int .i64 0, .pointer none, .pointer none, .pointer none, .int .i64 0, .int .i64 0, .pointer none, .pointer none, .pointer none, .int .i64 0, .int .i64 0, .int .i64 0, .int .u64 0, .int .u64 0, .int .u64 0, .int .i64 0, .int .i64 0, .int .i64 0, .map none, .map none, .slice none 0 0, .map none, .int .i64 0]
theorem oneCells_app : ∀ (a b : List Value), oneCells (a ++ b) = (oneCells a && oneCells b)
  | [], b => rfl
  | v :: a, b => by
    have ih := oneCells_app a b
    cases v <;> first | rfl | exact ih
theorem eng_one {S : List Value} (h : oneCells S = true) (r l : Nat) : oneCells (eng S r l) = true := by
  show oneCells (S ++ ([.map (some r), .int .i64 (l : Int)] : List Value)) = true
  rw [oneCells_app, h]; rfl
theorem eng_build {S : List Value} (hS : S.length = 16) (r l : Nat) (k : VP) : wBuild zE [(0, 6), (6, 16), (22, 2)] [(0, .agg ⟨[.bool true, .int .i64 0, .pointer none, .pointer none, .pointer none, .int .i64 0]⟩), (1, .agg ⟨S⟩), (2, .agg ⟨[.map (some r), .int .i64 (l : Int)]⟩)] k = k (.agg ⟨eng S r l⟩) := by
  match S, hS with
  | [a, b, c, d, e, f, g, h, i, j, x, y, z, u, v, w], _ => exact spine_eq _ _
end Go.Proofs.YtbmiedinclieaaaGreatDoor
