/-
  checksum.Update: the remainder of bytes, nibble by nibble.
-/
import Derived.Shelf.Abstract
import Derived.WalkKit
import Derived.OwnWalkIn
import Derived.TacticsInMore
import Derived.LoopNIn
import Derived.LoopIn
import Derived.Test.YtaiefmkapnekiaaGreatDoorProg
import Derived.Test.YtaiefmkapnekiaaGreatDoorH20
set_option linter.all false
namespace Go.Proofs.YtaiefmkapnekiaaGreatDoor
open Go.RowKit Go.Shelf Go.Clo

theorem wrap_u32n (n : Int) : IntKind.u32.wrap n = n % 4294967296 := by simp [IntKind.wrap, IntKind.bits, IntKind.signed]
theorem bits_xor_u32_nat (a b : Nat) (ha : a < 4294967296) (hb : b < 4294967296) : bits .xor .u32 (a : Int) (b : Int) = ((a ^^^ b : Nat) : Int) := by
  have hx : a ^^^ b < 2 ^ 32 := Nat.xor_lt_two_pow (by omega) (by omega)
  have h1 : (BitVec.ofInt 32 (a : Int)).toNat = a := by
    rw [BitVec.ofInt_natCast, BitVec.toNat_ofNat]; exact Nat.mod_eq_of_lt (by omega)
  have h2 : (BitVec.ofInt 32 (b : Int)).toNat = b := by
    rw [BitVec.ofInt_natCast, BitVec.toNat_ofNat]; exact Nat.mod_eq_of_lt (by omega)
  show IntKind.u32.wrap ((BitVec.ofInt 32 (a : Int) ^^^ BitVec.ofInt 32 (b : Int)).toNat : Int) = _
  rw [BitVec.toNat_xor, h1, h2, wrap_u32n]
  omega
theorem bits_and_u32_nat' (a b : Nat) (ha : a < 4294967296) (hb : b < 4294967296) : bits .and .u32 (a : Int) (b : Int) = ((a &&& b : Nat) : Int) := by
  have hx : a &&& b < 2 ^ 32 := Nat.and_lt_two_pow _ (by omega)
  have h1 : (BitVec.ofInt 32 (a : Int)).toNat = a := by
    rw [BitVec.ofInt_natCast, BitVec.toNat_ofNat]; exact Nat.mod_eq_of_lt (by omega)
  have h2 : (BitVec.ofInt 32 (b : Int)).toNat = b := by
    rw [BitVec.ofInt_natCast, BitVec.toNat_ofNat]; exact Nat.mod_eq_of_lt (by omega)
  show IntKind.u32.wrap ((BitVec.ofInt 32 (a : Int) &&& BitVec.ofInt 32 (b : Int)).toNat : Int) = _
  rw [BitVec.toNat_and, h1, h2, wrap_u32n]
  omega
/-- The remainder behind one more nibble. -/
def nibN (r : Nat) : Nat := Nat.xor (Nat.shiftRight r 4) (ctab.getD (Nat.land r 15) 0)
def crcN : List Nat → Nat → Nat
  | [], r => r
  | v :: l, r => crcN l (nibN (nibN (r ^^^ v)))
def intOf : Value → Int | .int _ q => q | _ => 0
theorem ctab_lt : ∀ i, i < 16 → ctab.getD i 0 < 4294967296 := by decide
theorem nibN_lt {r : Nat} (h : r < 4294967296) : nibN r < 4294967296 := by
  unfold nibN
  have h1 : Nat.land r 15 < 16 := Nat.and_lt_two_pow (n := 4) _ (by omega)
  have h2 : Nat.shiftRight r 4 < 2 ^ 32 := by
    have : Nat.shiftRight r 4 = r / 16 := Nat.shiftRight_eq_div_pow r 4
    omega
  exact Nat.xor_lt_two_pow h2 (ctab_lt _ h1)
theorem xor_ones {s : Nat} (h : s < 4294967296) : 4294967295 ^^^ s = 4294967295 - s := by
  have h1 : (BitVec.allOnes 32 ^^^ BitVec.ofNat 32 s).toNat = 4294967295 ^^^ s := by
    rw [BitVec.toNat_xor, BitVec.toNat_allOnes, BitVec.toNat_ofNat, Nat.mod_eq_of_lt (by omega)]
  rw [← h1, BitVec.allOnes_xor, BitVec.toNat_not, BitVec.toNat_ofNat, Nat.mod_eq_of_lt (by omega)]
theorem not_u32 {s : Nat} (h : s < 4294967296) : IntKind.u32.wrap (-(s : Int) - 1) = ((4294967295 - s : Nat) : Int) := by
  rw [wrap_u32n]; omega
theorem and15 {x : Nat} (h : x < 4294967296) : bits .and .u32 (x : Int) 15 = ((x &&& 15 : Nat) : Int) := bits_and_u32_nat' x 15 h (by omega)
theorem div16 (x : Nat) : (x : Int) / 16 = ((x / 16 : Nat) : Int) := by omega
theorem first_round (w : World) (R v : Nat) (hR : R < 4294967296) (hv : v < 256) (hg : ∀ i, i < 16 → w.cell? ⟨0, i, none⟩ = some (.int .u32 (ctab.getD i 0 : Nat))) :
    ∃ x1 i1 a1 : Nat, x1 < 4294967296 ∧ i1 < 16 ∧ bits .xor .u32 (R : Int) (v : Int) = (x1 : Int) ∧ bits .and .u32 (x1 : Int) 15 = (i1 : Int) ∧ w.cell? ⟨0, i1, none⟩ = some (.int .u32 (a1 : Int)) ∧ (a1 = ctab.getD i1 0 ∧ i1 = Nat.land x1 15 ∧ x1 = R ^^^ v) := by
  have hx : R ^^^ v < 2 ^ 32 := Nat.xor_lt_two_pow (by omega) (by omega)
  have hi : (R ^^^ v) &&& 15 < 16 := Nat.and_lt_two_pow (n := 4) _ (by omega)
  refine ⟨R ^^^ v, (R ^^^ v) &&& 15, ctab.getD ((R ^^^ v) &&& 15) 0, hx, hi, ?_, and15 hx, hg _ hi, rfl, rfl, rfl⟩
  exact bits_xor_u32_nat _ _ hR (by omega)
theorem nib_round (w : World) (x a : Nat) (hx : x < 4294967296) (ha : a < 4294967296) (hg : ∀ i, i < 16 → w.cell? ⟨0, i, none⟩ = some (.int .u32 (ctab.getD i 0 : Nat))) :
    ∃ y i b : Nat, y < 4294967296 ∧ i < 16 ∧ bits .xor .u32 ((x : Int) / 16) (a : Int) = (y : Int) ∧ bits .and .u32 (y : Int) 15 = (i : Int) ∧ w.cell? ⟨0, i, none⟩ = some (.int .u32 (b : Int)) ∧ (y = Nat.xor (Nat.shiftRight x 4) a ∧ b = ctab.getD i 0 ∧ i = Nat.land y 15) := by
  have e : Nat.shiftRight x 4 = x / 16 := Nat.shiftRight_eq_div_pow x 4
  have hy : Nat.xor (Nat.shiftRight x 4) a < 2 ^ 32 := by rw [e]; exact Nat.xor_lt_two_pow (by omega) (by omega)
  have hi : Nat.xor (Nat.shiftRight x 4) a &&& 15 < 16 := Nat.and_lt_two_pow (n := 4) _ (by omega)
  refine ⟨_, _, ctab.getD (Nat.xor (Nat.shiftRight x 4) a &&& 15) 0, hy, hi, ?_, and15 hy, hg _ hi, rfl, rfl, rfl⟩
  rw [div16, e]
  exact bits_xor_u32_nat _ _ (by omega) ha
set_option maxRecDepth 100000 in
set_option maxHeartbeats 2000000 in
theorem update_w (s b off len cap : Nat) (bs : List Nat) (w : World) (hs : s < 4294967296) (hlen : bs.length = len) (hmax : len ≤ 1000000) (hb : ∀ j, bs.getD j 0 < 256)
    (hc : ∀ j, j < len → w.cell? ⟨b, off + j, none⟩ = some (.int .u8 (bs.getD j 0 : Nat)))
    (hg : ∀ i, i < 16 → w.cell? ⟨0, i, none⟩ = some (.int .u32 (ctab.getD i 0 : Nat))) :
    Calls Tryz.prog 301 #[.int .u32 (s : Int), .slice (some ⟨b, off, none⟩) len cap] w fun e w' => e = .returned (.int .u32 ((4294967295 - crcN bs (4294967295 - s) : Nat) : Int)) ∧ w' = w := by
  go_enter Tryz.func301, Tryz.ntmps301
  go_wp2
  have e0 : bits BinOp.xor IntKind.u32 IntKind.u32.max (s : Int) = ((4294967295 - s : Nat) : Int) := by
    rw [show IntKind.u32.max = ((4294967295 : Nat) : Int) from rfl, bits_xor_u32_nat _ _ (by omega) hs, xor_ones hs]
  rw [e0]
  go_loop [5, 12] (fun r i => ∃ (k R : Nat), k ≤ len ∧ i = .int .i64 (k : Int) ∧ r = .int .u32 (R : Int) ∧ R < 4294967296 ∧ crcN bs (4294967295 - s) = crcN (bs.drop k) R) (fun _ i => len - (intOf i).toNat)
  case atStart => exact ⟨0, _, by omega, rfl, rfl, by omega, rfl⟩
  case round =>
    obtain ⟨k, R, hk, rfl, rfl, hR, hd⟩ := hrel
    obtain ⟨v, hv0⟩ : ∃ v, v = bs.getD k 0 := ⟨_, rfl⟩
    have hcell : k < len → w.cell? ⟨b, off + k, none⟩ = some (.int .u8 (v : Int)) := fun h => by rw [hv0]; exact hc k h
    have hv : v < 256 := by rw [hv0]; exact hb k
    obtain ⟨x1, i1, a1, l1, m1, f1, f2, c1, n1⟩ := first_round w R v hR hv hg
    obtain ⟨x2, i2, a2, l2, m2, f3, f4, c2, n2⟩ := nib_round w x1 a1 l1 (by rw [n1.1]; exact ctab_lt _ m1) hg
    obtain ⟨x3, i3, a3, l3, m3, f5, _, _, n3⟩ := nib_round w x2 a2 l2 (by rw [n2.2.1]; exact ctab_lt _ m2) hg
    have hx : x3 = nibN (nibN (R ^^^ v)) := by
      rw [n3.1, n2.2.1, n2.2.2, n2.1, n1.1, n1.2.1, n1.2.2]
      rfl
    have HX : Hid (k < len → crcN (bs.drop k) R = crcN (bs.drop (k + 1)) x3) := fun h => by
      rw [List.drop_eq_getElem_cons (by omega), crcN, hx, hv0]
      congr 3
      simp [List.getD, List.getElem?_eq_getElem (show k < bs.length by omega)]
    have HE : Hid (¬ k < len → crcN (bs.drop k) R = R) := fun h => by rw [List.drop_eq_nil_of_le (by omega)]; rfl
    have HD : Hid (crcN bs (4294967295 - s) = crcN (bs.drop k) R) := hd
    have E1 : bits BinOp.and IntKind.u32 (bits BinOp.xor IntKind.u32 (R : Int) (v : Int)) 15 = (i1 : Int) := by rw [f1]; exact f2
    have E2 : bits BinOp.and IntKind.u32 (bits BinOp.xor IntKind.u32 (bits BinOp.xor IntKind.u32 (R : Int) (v : Int) / 16) (a1 : Int)) 15 = (i2 : Int) := by rw [f1, f3]; exact f4
    have E3 : bits BinOp.xor IntKind.u32 (bits BinOp.xor IntKind.u32 (bits BinOp.xor IntKind.u32 (R : Int) (v : Int) / 16) (a1 : Int) / 16) (a2 : Int) = (x3 : Int) := by rw [f1, f3]; exact f5
    have C1 : w.cell? ⟨0, (bits BinOp.and IntKind.u32 (bits BinOp.xor IntKind.u32 (R : Int) (v : Int)) 15).toNat, none⟩ = some (.int .u32 (a1 : Int)) := by rw [E1, Int.toNat_natCast]; exact c1
    have C2 : w.cell? ⟨0, (bits BinOp.and IntKind.u32 (bits BinOp.xor IntKind.u32 (bits BinOp.xor IntKind.u32 (R : Int) (v : Int) / 16) (a1 : Int)) 15).toNat, none⟩ = some (.int .u32 (a2 : Int)) := by rw [E2, Int.toNat_natCast]; exact c2
    have G1 : 0 ≤ bits BinOp.and IntKind.u32 (bits BinOp.xor IntKind.u32 (R : Int) (v : Int)) 15 ∧ bits BinOp.and IntKind.u32 (bits BinOp.xor IntKind.u32 (R : Int) (v : Int)) 15 < 16 := by rw [E1]; omega
    have G2 : 0 ≤ bits BinOp.and IntKind.u32 (bits BinOp.xor IntKind.u32 (bits BinOp.xor IntKind.u32 (R : Int) (v : Int) / 16) (a1 : Int)) 15 ∧ bits BinOp.and IntKind.u32 (bits BinOp.xor IntKind.u32 (bits BinOp.xor IntKind.u32 (R : Int) (v : Int) / 16) (a1 : Int)) 15 < 16 := by rw [E2]; omega
    obtain ⟨G1a, G1b⟩ := G1
    obtain ⟨G2a, G2b⟩ := G2
    have HE3 : Hid (bits BinOp.xor IntKind.u32 (bits BinOp.xor IntKind.u32 (bits BinOp.xor IntKind.u32 (R : Int) (v : Int) / 16) (a1 : Int) / 16) (a2 : Int) = (x3 : Int)) := E3
    clear hd hc hb hg e0 n1 n2 n3 hx hv0 E1 E2 E3 f1 f2 f3 f4 f5 c1 c2
    go_wp2
    · have hlt : k < len := by assumption
      go_round
      case rel => exact ⟨k + 1, x3, by omega, by go_num, by rw [HE3.out], l3, by rw [HD.out, HX.out hlt]⟩
      case measure => simp [intOf]; omega
    · have hge : ¬ k < len := by assumption
      have e9 : bits BinOp.xor IntKind.u32 IntKind.u32.max (R : Int) = ((4294967295 - R : Nat) : Int) := by
        rw [show IntKind.u32.max = ((4294967295 : Nat) : Int) from rfl, bits_xor_u32_nat _ _ (by omega) hR, xor_ones hR]
      rw [HD.out, HE.out hge]
      go_ret
      refine ⟨?_, rfl⟩
      rw [e9]
      rfl
end Go.Proofs.YtaiefmkapnekiaaGreatDoor
