/-
  A call of ordinal/planner.Run: one closed run, under names of its own.
-/
import Derived.Test.YtbmiedinclieaaaGreatDoorU11
import Derived.Test.YtbmiedinclieaaaGreatDoorU12
import Derived.Test.YtbmiedinclieaaaGreatDoorU13
set_option linter.all false
namespace Go.Proofs.YtbmiedinclieaaaGreatDoor
open Go.Clo
def cAA : List Value := [.agg ⟨[.slice (some ⟨0, 0, none⟩) 1 1, .int .i64 0, .string ⟨⟨[]⟩⟩, .slice (some ⟨1, 0, none⟩) 1 1, .slice none 0 0, .slice (some ⟨2, 0, none⟩) 1 1]⟩, .agg ⟨[.map (some 3)]⟩]
def cAP : Go.Clo.Lit := [(0, .cells [.string ⟨⟨[120]⟩⟩] 1),
  (1, .cells [.slice (some ⟨4, 0, none⟩) 1 1, .slice (some ⟨5, 0, none⟩) 0 0] 2),
  (2, .cells [.slice (some ⟨6, 0, none⟩) 1 1, .int .i64 1, .slice (some ⟨7, 0, none⟩) 1 1, .slice (some ⟨8, 0, none⟩) 1 1, .int .i64 0, .slice none 0 0, .slice none 0 0, .slice none 0 0, .bool false, .slice (some ⟨9, 0, none⟩) 1 1, .slice (some ⟨10, 0, none⟩) 1 1] 0),
  (3, .map [⟨.string ⟨⟨[114]⟩⟩, .agg ⟨[.slice (some ⟨11, 0, none⟩) 1 1, .int .i64 1, .slice (some ⟨12, 0, none⟩) 1 1]⟩, 0⟩] 1),
  (4, .cells [.bool false, .string ⟨⟨[114]⟩⟩, .slice (some ⟨13, 0, none⟩) 1 1] 3),
  (5, .cells [] 0),
  (6, .cells [.string ⟨⟨[120]⟩⟩] 1),
  (7, .cells [.bool false] 1),
  (8, .cells [.string ⟨⟨[114]⟩⟩, .slice (some ⟨14, 0, none⟩) 1 1, .slice (some ⟨15, 0, none⟩) 1 1, .slice none 0 0, .slice none 0 0, .slice none 0 0] 6),
  (9, .cells [.int .u32 1] 1),
  (10, .cells [.int .u32 1] 1),
  (11, .cells [.int .i64 1] 1),
  (12, .cells [.slice (some ⟨16, 0, none⟩) 1 1] 0),
  (13, .cells [.string ⟨⟨[120]⟩⟩, .int .i64 0, .int .i64 0, .string ⟨⟨[]⟩⟩] 4),
  (14, .cells [.int .i64 0] 1),
  (15, .cells [.int .i64 0] 1),
  (16, .cells [.int .i64 1, .int .i64 1, .string ⟨⟨[]⟩⟩] 3)]
def cAM : Nat := 17
def cAV : Value := .tuple ⟨[.iface 414 (.agg ⟨[.iface 282 (.agg ⟨[.slice (some ⟨823, 0, none⟩) 1 1, .slice (some ⟨825, 0, none⟩) 1 1, .slice (some ⟨829, 0, none⟩) 1 1, .slice (some ⟨832, 0, none⟩) 1 1, .slice (some ⟨784, 0, none⟩) 1 1]⟩), .slice (some ⟨889, 0, none⟩) 1 1]⟩), .int .i64 4, .int .i64 0]⟩
def cAL : Go.Clo.Lit := [(705, .cells [.int .u32 1] 1),
  (745, .cells [.int .i64 1, .int .i64 1, .string ⟨⟨[]⟩⟩, .slice (some ⟨705, 0, none⟩) 1 1, .pointer none, .pointer none, .int .i64 1, .int .i64 1, .slice (some ⟨749, 0, none⟩) 1 1] 0),
  (749, .cells [.int .u32 1, .int .u32 0] 0),
  (784, .cells [.int .u32 1, .int .u32 0] 0),
  (823, .cells [.bool false] 1),
  (825, .cells [.int .i64 0, .int .u32 0, .int .i64 (-1)] 3),
  (829, .cells [.slice (some ⟨865, 0, none⟩) 1 1] 0),
  (832, .cells [.map (some 848)] 0),
  (848, .map [⟨.string ⟨⟨[]⟩⟩, .int .i64 0, 0⟩] 1),
  (864, .cells [] 0),
  (865, .cells [.slice (some ⟨864, 0, none⟩) 0 0, .bool false, .pointer (some ⟨745, 0, none⟩)] 3),
  (889, .cells [.int .i64 0] 1)]
def cAN : Nat := 895
set_option maxRecDepth 1000000 in
theorem rcA : litRun Tryz.prog orc0 dok 45 cAA cAP cAM cAV (cAL ++ cAP) cAN = true := by kernel_rfl
set_option maxRecDepth 1000000 in
theorem fcA : fitL cAA cAP cAM cAV cAL cAN = true := by kernel_rfl
noncomputable def cAO : O := embR cAA cAP cAM cAV cAL cAN
theorem cA_ok {args : List Value} {H : Heap} {nx : Nat} {v : Value} {H' : Heap} {nx' : Nat} (h : cAO args H nx = some (v, H', nx')) : CS Tryz.prog 45 args H nx v H' nx' :=
  embR_ok (litRun_cs mixed namesOK orc0_ok dok_ok rcA) fcA h
end Go.Proofs.YtbmiedinclieaaaGreatDoor
