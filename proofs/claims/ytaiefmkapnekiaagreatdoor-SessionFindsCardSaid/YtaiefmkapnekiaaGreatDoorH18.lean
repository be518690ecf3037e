/-
  Sorted keys, as lists; new slices.
-/
import Derived.Test.YtaiefmkapnekiaaGreatDoorH8
import Derived.Test.YtaiefmkapnekiaaGreatDoorH15
set_option linter.all false
namespace Go.Proofs.YtaiefmkapnekiaaGreatDoor
open Go.Clo
section
variable {α : Type} (lt : α → α → Bool)
def insG (z : α) : List α → List α
  | [] => [z]
  | x :: l => cond (lt x z) (x :: insG z l) (z :: x :: l)
def sortG : List α → List α
  | [] => []
  | z :: l => insG lt z (sortG l)
end
def sortZ (l : List Int) : List Int := sortG (fun a b => ltI a b) l
def sortB (l : List ByteArray) : List ByteArray := sortG (fun a b => Op.bytesLess a.data.toList b.data.toList) l
def keyI (e : MapEntry) : Option Int := match e.key with
  | .int .i64 (.ofNat n) => cond (Nat.ble n 1000000) (some (.ofNat n)) none
  | _ => none
def keysI : List MapEntry → Option (List Int)
  | [] => some []
  | e :: es => match keyI e, keysI es with
    | some s, some l => some (s :: l)
    | _, _ => none
theorem keysI_map : ∀ {es : List MapEntry} {zs : List Int}, keysI es = some zs → es.map (·.key) = zs.map (Value.int .i64) ∧ ∀ z ∈ zs, 0 ≤ z ∧ z ≤ 1000000
  | [], zs, h => by simp [keysI] at h; subst h; exact ⟨rfl, fun z hz => by cases hz⟩
  | e :: es, zs, h => by
    simp only [keysI] at h
    split at h
    · rename_i s l h1 h2
      cases h
      obtain ⟨g1, g2⟩ := keysI_map h2
      unfold keyI at h1
      split at h1
      · rename_i n hs
        cases hb : Nat.ble n 1000000 with
        | false => rw [hb] at h1; cases h1
        | true =>
          rw [hb] at h1; simp only [cond_true, Option.some.injEq] at h1; subst h1
          have := Nat.le_of_ble_eq_true hb
          refine ⟨by simp [g1, hs], fun z hz => ?_⟩
          rcases List.mem_cons.1 hz with rfl | hz
          · exact ⟨Int.natCast_nonneg n, by show (n : Int) ≤ _; omega⟩
          · exact g2 z hz
      · cases h1
    · cases h
def keyS (e : MapEntry) : Option ByteArray := match e.key with
  | .string s => cond (Nat.ble s.size 1000) (some s) none
  | _ => none
def keysS : List MapEntry → Option (List ByteArray)
  | [] => some []
  | e :: es => match keyS e, keysS es with
    | some s, some l => some (s :: l)
    | _, _ => none
theorem keysS_map : ∀ {es : List MapEntry} {zs : List ByteArray}, keysS es = some zs → es.map (·.key) = zs.map Value.string ∧ ∀ z ∈ zs, z.size ≤ 1000
  | [], zs, h => by simp [keysS] at h; subst h; exact ⟨rfl, fun z hz => by cases hz⟩
  | e :: es, zs, h => by
    simp only [keysS] at h
    split at h
    · rename_i s l h1 h2
      cases h
      obtain ⟨g1, g2⟩ := keysS_map h2
      unfold keyS at h1
      split at h1
      · rename_i s' hs
        cases hb : Nat.ble s'.size 1000 with
        | false => rw [hb] at h1; cases h1
        | true =>
          rw [hb] at h1; simp only [cond_true, Option.some.injEq] at h1; subst h1
          refine ⟨by simp [g1, hs], fun z hz => ?_⟩
          rcases List.mem_cons.1 hz with rfl | hz
          · exact Nat.le_of_ble_eq_true hb
          · exact g2 z hz
      · cases h1
    · cases h
noncomputable def newR (cs : List Value) (H : Heap) (nx : Nat) : Value × Heap × Nat := match cs with
  | [] => (.slice none 0 0, H, nx)
  | z :: l => (.slice (some ⟨nx, 0, none⟩) (l.length + 1) (l.length + 1), hs H nx (some (.cells (z :: l) 1)), nx + 1)
noncomputable def newQ (cs : List Value) (H : Heap) (nx : Nat) : Option (Value × Heap × Nat) := match cs with
  | [] => some (.slice none 0 0, H, nx)
  | z :: l => Go.Clo.spine (z :: l) fun c => hsK H nx (some (.cells c 1)) fun H => forceN (l.length + 1) fun n => forceN (nx + 1) fun q => some (.slice (some ⟨nx, 0, none⟩) n n, H, q)
theorem newQ_eq (cs : List Value) (H : Heap) (nx : Nat) : newQ cs H nx = some ((newR cs H nx).1, (newR cs H nx).2.1, (newR cs H nx).2.2) := by
  cases cs with
  | nil => rfl
  | cons z l => simp only [newQ]; rw [Go.Clo.spine_eq, hsK_eq, forceN_eq, forceN_eq]; rfl
end Go.Proofs.YtaiefmkapnekiaaGreatDoor
