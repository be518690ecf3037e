/-
  A sector of zeros.
  The store after i batches, and the database with i rows, written down; each step's run, looked at by the kernel.
  The database's chain: each update, each count of rows.
-/
import Derived.Test.YtbmiedinclieaaaGreatDoorU1
import Derived.Test.YtbmiedinclieaaaGreatDoorU11
import Derived.Test.YtbmiedinclieaaaGreatDoorU12
import Derived.Test.YtbmiedinclieaaaGreatDoorU7
set_option linter.all false
namespace Go.Clo
def zSec : Blk := .cells (List.replicate 128 (.int .u8 0)) 0
end Go.Clo

namespace Go.Proofs.YtbmiedinclieaaaGreatDoor
open Go.Clo

def slV (b n : Nat) : Value := .slice (some ⟨b, 0, none⟩) n n
def ptV (b : Nat) : Value := .pointer (some ⟨b, 0, none⟩)
def ptrs (b n : Nat) : List Value := (List.range n).map fun k => ptV (b + k)
def rootB (a b : Nat) : Blk := .cells (ptV a :: .pointer none :: .pointer none :: .pointer none :: ptV b :: List.replicate 27 (.pointer none)) 0
def branB (a : Nat) : Blk := .cells (ptrs a 17 ++ List.replicate 15 (.pointer none)) 0
def lea0B (a : Nat) : Blk := .cells (List.replicate 16 (.pointer none) ++ ptrs a 16) 0
def leafB (a : Nat) : Blk := .cells (ptrs a 32) 0
def dbB (k : Nat) (rows : Value) : Blk := .map [⟨.string ⟨#[114]⟩, .agg ⟨[slV k 1, .int .i64 1, rows]⟩, 0⟩] 1
def kindB : Blk := .cells [.int .i64 1] 1
def rowB (i : Nat) : Blk := .cells (rowV i) 3
def rowsB (a d n : Nat) : Blk := .cells ((List.range n).map fun j => slV (a + d * j) 1) 0
def batB (a n : Nat) : Blk := .cells ((List.range n).map fun j => slV (a + 2 * j) 14) 1
/-- The store's cells after i batches. -/
def sS : Nat → List Value
  | 0 => [.int .i64 4624, ptV 0, ptV 0, .pointer none, .int .i64 0, .int .i64 4112, .int .i64 512, .int .u64 1, .int .u64 1, .int .u64 1, .int .i64 4113, .int .i64 0, .int .i64 0, .map (some 1), .map (some 1), .slice none 0 0]
  | i + 1 => [.int .i64 4624, ptV 0, ptV 1, ptV 2, .int .i64 (.ofNat (i + 1)), .int .i64 4112, .int .i64 512, .int .u64 1, .int .u64 1, .int .u64 (.ofNat (i + 2)), .int .i64 (.ofNat (4114 + i)), .int .i64 0, .int .i64 0, .map (some 3), .map (some 4), slV 5 (i + 1)]
def nS : Nat → Nat
  | 0 => 134
  | i + 1 => 139 + 2 * (i + 1)
def lS : Nat → Go.Clo.Lit
  | 0 => [(0, rootB 2 3), (3, branB 4), (4, lea0B 21), (5, leafB 37), (6, leafB 69), (7, leafB 101), (1, dbB 133 (.slice none 0 0)), (133, kindB)]
  | i + 1 => (1, rootB 6 7) :: (7, branB 10) :: (10, lea0B 27) :: (11, leafB 43) :: (12, leafB 75) :: (13, leafB 107) :: (4, dbB 8 (slV 9 (i + 1))) :: (8, kindB) :: (9, rowsB 139 2 (i + 1)) :: (5, batB 140 (i + 1)) :: ((List.range (i + 1)).map fun j => (139 + 2 * j, rowB j))
def nD : Nat → Nat
  | 0 => 2
  | i + 1 => 3 + (i + 1)
def lD : Nat → Go.Clo.Lit
  | 0 => [(0, dbB 1 (.slice none 0 0)), (1, kindB)]
  | i + 1 => (0, dbB 1 (slV 2 (i + 1))) :: (1, kindB) :: (2, rowsB 3 1 (i + 1)) :: ((List.range (i + 1)).map fun j => (3 + j, rowB j))
/-- The update's two blocks behind the others. -/
noncomputable def uH (H : Heap) (n i : Nat) : Heap := hs (hs H n (some (.cells (rowV i) 0))) (n + 1) (some (.cells (updV n) 0))
noncomputable abbrev stp := stepC Tryz.prog orc0 dok
/-- The batches' row is a new block. -/
noncomputable def batOK (a : Nat) (S' : List Value) : Bool := match S'.drop 15 with
  | [.slice (some ⟨b, 0, none⟩) _ _] => Nat.ble a b
  | _ => false
noncomputable def logK (i : Nat) (v : Value) (H1 : Heap) (n1 : Nat) : Bool := match v with
  | .tuple ⟨[.agg ⟨S'⟩, .int .i64 (.ofNat 0)]⟩ => batOK (nS i + 2) S' && cutOK (lS (i + 1)) (nS (i + 1)) (sS (i + 1)) S' H1 n1 (nS i) (nS i + 2)
  | _ => false
noncomputable def logC (i : Nat) : Bool := cond ((sS i).all (lowV 15 (nS i))) (cond (Nat.beq i 0) (stp 30 [.agg ⟨sS i⟩, slV (nS i + 1) 1] (uH (mkH (lS i)) (nS i) i) (nS i + 2) (logK i)) (stepK Tryz.prog orc0 dok 30 [.agg ⟨sS i⟩, slV (nS i + 1) 1] (uH (mkH (lS i)) (nS i) i) (nS i + 2) 5 (logK i))) false
noncomputable def appK (i : Nat) (v : Value) (H1 : Heap) (n1 : Nat) : Bool := match v with
  | .tuple ⟨[.agg ⟨[.map (some d)]⟩, .int .i64 _, .int .i64 (.ofNat 0)]⟩ => cutOK (lD (i + 1)) (nD (i + 1)) [.map (some 0)] [.map (some d)] H1 n1 (nD i) (nD i + 2)
  | _ => false
noncomputable def appC (i : Nat) : Bool := stp 68 [.agg ⟨[.map (some 0)]⟩, slV (nD i + 1) 1] (uH (mkH (lD i)) (nD i) i) (nD i + 2) (appK i)
noncomputable def rowK1 (i : Nat) (v : Value) (H1 : Heap) (n1 : Nat) : Bool := match v with
  | .int .i64 (.ofNat n) => Nat.beq n i
  | _ => false
noncomputable def rowC (i : Nat) : Bool := stp 14 [.agg ⟨[.map (some 0)]⟩] (mkH (lD i)) (nD i) (rowK1 i)
end Go.Proofs.YtbmiedinclieaaaGreatDoor

namespace Go.Proofs.YtbmiedinclieaaaGreatDoor
open Go.Clo
set_option maxRecDepth 1000000 in
theorem ap0 : (List.range' 0 16).all appC = true := by kernel_rfl
set_option maxRecDepth 1000000 in
theorem ap16 : (List.range' 16 16).all appC = true := by kernel_rfl
set_option maxRecDepth 1000000 in
theorem ap32 : (List.range' 32 16).all appC = true := by kernel_rfl
set_option maxRecDepth 1000000 in
theorem ap48 : (List.range' 48 16).all appC = true := by kernel_rfl
set_option maxRecDepth 1000000 in
theorem ap64 : (List.range' 64 16).all appC = true := by kernel_rfl
set_option maxRecDepth 1000000 in
theorem ap80 : (List.range' 80 13).all appC = true := by kernel_rfl
theorem apps {i : Nat} (h0 : 0 ≤ i) (h1 : i < 93) : appC i = true := by
  by_cases h : i < 16
  · exact List.all_eq_true.1 ap0 i (List.mem_range'_1.2 ⟨by omega, by omega⟩)
  by_cases h : i < 32
  · exact List.all_eq_true.1 ap16 i (List.mem_range'_1.2 ⟨by omega, by omega⟩)
  by_cases h : i < 48
  · exact List.all_eq_true.1 ap32 i (List.mem_range'_1.2 ⟨by omega, by omega⟩)
  by_cases h : i < 64
  · exact List.all_eq_true.1 ap48 i (List.mem_range'_1.2 ⟨by omega, by omega⟩)
  by_cases h : i < 80
  · exact List.all_eq_true.1 ap64 i (List.mem_range'_1.2 ⟨by omega, by omega⟩)
  exact List.all_eq_true.1 ap80 i (List.mem_range'_1.2 ⟨by omega, by omega⟩)
set_option maxRecDepth 1000000 in
theorem ro0 : (List.range' 0 94).all rowC = true := by kernel_rfl
theorem rowss {i : Nat} (h0 : 0 ≤ i) (h1 : i < 94) : rowC i = true := by
  exact List.all_eq_true.1 ro0 i (List.mem_range'_1.2 ⟨by omega, by omega⟩)
end Go.Proofs.YtbmiedinclieaaaGreatDoor
