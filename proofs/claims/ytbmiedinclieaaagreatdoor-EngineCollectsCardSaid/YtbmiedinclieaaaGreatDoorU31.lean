/-
  A call of ordinal/planner.Run: one closed run, under names of its own.
-/
import Derived.Test.YtbmiedinclieaaaGreatDoorU11
import Derived.Test.YtbmiedinclieaaaGreatDoorU12
import Derived.Test.YtbmiedinclieaaaGreatDoorU13
set_option linter.all false
namespace Go.Proofs.YtbmiedinclieaaaGreatDoor
open Go.Clo
def cBA : List Value := [.agg ⟨[.slice (some ⟨0, 0, none⟩) 1 1, .int .i64 0, .string ⟨⟨[]⟩⟩, .slice (some ⟨1, 0, none⟩) 1 1, .slice none 0 0, .slice (some ⟨2, 0, none⟩) 1 1]⟩, .agg ⟨[.map (some 3)]⟩]
def cBP : Go.Clo.Lit := [(0, .cells [.string ⟨⟨[120]⟩⟩] 1),
  (1, .cells [.slice (some ⟨4, 0, none⟩) 1 1, .slice (some ⟨5, 0, none⟩) 0 0] 2),
  (2, .cells [.slice (some ⟨6, 0, none⟩) 1 1, .int .i64 1, .slice (some ⟨7, 0, none⟩) 1 1, .slice (some ⟨8, 0, none⟩) 1 1, .int .i64 0, .slice none 0 0, .slice none 0 0, .slice none 0 0, .bool false, .slice (some ⟨9, 0, none⟩) 1 1, .slice (some ⟨10, 0, none⟩) 1 1] 0),
  (3, .map [⟨.string ⟨⟨[114]⟩⟩, .agg ⟨[.slice (some ⟨11, 0, none⟩) 1 1, .int .i64 1, .slice (some ⟨12, 0, none⟩) 2 2]⟩, 0⟩] 1),
  (4, .cells [.bool false, .string ⟨⟨[114]⟩⟩, .slice (some ⟨13, 0, none⟩) 1 1] 3),
  (5, .cells [] 0),
  (6, .cells [.string ⟨⟨[120]⟩⟩] 1),
  (7, .cells [.bool false] 1),
  (8, .cells [.string ⟨⟨[114]⟩⟩, .slice (some ⟨14, 0, none⟩) 1 1, .slice (some ⟨15, 0, none⟩) 1 1, .slice none 0 0, .slice none 0 0, .slice none 0 0] 6),
  (9, .cells [.int .u32 1] 1),
  (10, .cells [.int .u32 1] 1),
  (11, .cells [.int .i64 1] 1),
  (12, .cells [.slice (some ⟨16, 0, none⟩) 1 1, .slice (some ⟨17, 0, none⟩) 1 1] 0),
  (13, .cells [.string ⟨⟨[120]⟩⟩, .int .i64 0, .int .i64 0, .string ⟨⟨[]⟩⟩] 4),
  (14, .cells [.int .i64 0] 1),
  (15, .cells [.int .i64 0] 1),
  (16, .cells [.int .i64 1, .int .i64 1, .string ⟨⟨[]⟩⟩] 3),
  (17, .cells [.int .i64 1, .int .i64 2, .string ⟨⟨[]⟩⟩] 3)]
def cBM : Nat := 18
def cBV : Value := .tuple ⟨[.iface 414 (.agg ⟨[.iface 282 (.agg ⟨[.slice (some ⟨1434, 0, none⟩) 1 1, .slice (some ⟨1436, 0, none⟩) 1 1, .slice (some ⟨1440, 0, none⟩) 1 1, .slice (some ⟨1443, 0, none⟩) 1 1, .slice (some ⟨1395, 0, none⟩) 1 1]⟩), .slice (some ⟨1500, 0, none⟩) 1 1]⟩), .int .i64 8, .int .i64 0]⟩
def cBL : Go.Clo.Lit := [(1146, .cells [.int .u32 1] 1),
  (1215, .cells [.int .u32 1] 1),
  (1289, .cells [.int .i64 1, .int .i64 2, .string ⟨⟨[]⟩⟩, .slice (some ⟨1215, 0, none⟩) 1 1, .pointer none, .pointer none, .int .i64 1, .int .i64 1, .slice (some ⟨1293, 0, none⟩) 1 1] 0),
  (1293, .cells [.int .u32 1, .int .u32 0] 0),
  (1356, .cells [.int .i64 1, .int .i64 1, .string ⟨⟨[]⟩⟩, .slice (some ⟨1146, 0, none⟩) 1 1, .pointer none, .pointer (some ⟨1289, 0, none⟩), .int .i64 2, .int .i64 2, .slice (some ⟨1360, 0, none⟩) 1 1] 0),
  (1360, .cells [.int .u32 2, .int .u32 0] 0),
  (1395, .cells [.int .u32 2, .int .u32 0] 0),
  (1434, .cells [.bool false] 1),
  (1436, .cells [.int .i64 0, .int .u32 0, .int .i64 (-1)] 3),
  (1440, .cells [.slice (some ⟨1476, 0, none⟩) 1 1] 0),
  (1443, .cells [.map (some 1459)] 0),
  (1459, .map [⟨.string ⟨⟨[]⟩⟩, .int .i64 0, 0⟩] 1),
  (1475, .cells [] 0),
  (1476, .cells [.slice (some ⟨1475, 0, none⟩) 0 0, .bool false, .pointer (some ⟨1356, 0, none⟩)] 3),
  (1500, .cells [.int .i64 0] 1)]
def cBN : Nat := 1506
set_option maxRecDepth 1000000 in
theorem rcB : litRun Tryz.prog orc0 dok 45 cBA cBP cBM cBV (cBL ++ cBP) cBN = true := by kernel_rfl
set_option maxRecDepth 1000000 in
theorem fcB : fitL cBA cBP cBM cBV cBL cBN = true := by kernel_rfl
noncomputable def cBO : O := embR cBA cBP cBM cBV cBL cBN
theorem cB_ok {args : List Value} {H : Heap} {nx : Nat} {v : Value} {H' : Heap} {nx' : Nat} (h : cBO args H nx = some (v, H', nx')) : CS Tryz.prog 45 args H nx v H' nx' :=
  embR_ok (litRun_cs mixed namesOK orc0_ok dok_ok rcB) fcB h
end Go.Proofs.YtbmiedinclieaaaGreatDoor
