/-
  A call of ordinal/planner.Run: one closed run, under names of its own.
-/
import Derived.Test.YtaiefmkapnekiaaGreatDoorA34
import Derived.Test.YtaiefmkapnekiaaGreatDoorA11
set_option linter.all false
namespace Go.Proofs.YtaiefmkapnekiaaGreatDoor
open Go.Clo
def cRaA : List Value := [.agg ⟨[.slice (some ⟨0, 0, none⟩) 1 1, .int .i64 0, .string ⟨⟨[]⟩⟩, .slice (some ⟨1, 0, none⟩) 1 1, .slice none 0 0, .slice (some ⟨2, 0, none⟩) 1 1]⟩, .agg ⟨[.map (some 3)]⟩]
def cRaP : Go.Clo.Lit := [(0, .cells [.string ⟨⟨[120]⟩⟩] 1),
  (1, .cells [.slice (some ⟨4, 0, none⟩) 1 1, .slice (some ⟨5, 0, none⟩) 0 0] 2),
  (2, .cells [.slice (some ⟨6, 0, none⟩) 2 2, .int .i64 1, .slice (some ⟨7, 0, none⟩) 1 1, .slice (some ⟨8, 0, none⟩) 1 1, .int .i64 0, .slice (some ⟨9, 0, none⟩) 1 1, .slice none 0 0, .slice (some ⟨10, 0, none⟩) 1 1, .bool false, .slice (some ⟨11, 0, none⟩) 1 1, .slice (some ⟨12, 0, none⟩) 1 1] 0),
  (3, .map [⟨.string ⟨⟨[114]⟩⟩, .agg ⟨[.slice (some ⟨13, 0, none⟩) 2 2, .int .i64 2, .slice (some ⟨14, 0, none⟩) 3 3]⟩, 0⟩, ⟨.string ⟨⟨[115]⟩⟩, .agg ⟨[.slice (some ⟨15, 0, none⟩) 1 1, .int .i64 1, .slice (some ⟨16, 0, none⟩) 1 1]⟩, 1⟩] 2),
  (4, .cells [.bool false, .string ⟨⟨[114]⟩⟩, .slice (some ⟨17, 0, none⟩) 2 2] 3),
  (5, .cells [] 0),
  (6, .cells [.string ⟨⟨[120]⟩⟩, .string ⟨⟨[121]⟩⟩] 1),
  (7, .cells [.bool false] 1),
  (8, .cells [.string ⟨⟨[114]⟩⟩, .slice (some ⟨18, 0, none⟩) 2 2, .slice (some ⟨19, 0, none⟩) 2 2, .slice none 0 0, .slice none 0 0, .slice none 0 0] 6),
  (9, .cells [.int .i64 1] 1),
  (10, .cells [.int .i64 1] 1),
  (11, .cells [.int .u32 1] 1),
  (12, .cells [.int .u32 1] 1),
  (13, .cells [.int .i64 1, .int .i64 1] 1),
  (14, .cells [.slice (some ⟨20, 0, none⟩) 2 2, .slice (some ⟨21, 0, none⟩) 2 2, .slice (some ⟨22, 0, none⟩) 2 2] 0),
  (15, .cells [.int .i64 1] 1),
  (16, .cells [.slice (some ⟨23, 0, none⟩) 1 1] 0),
  (17, .cells [.string ⟨⟨[120]⟩⟩, .int .i64 0, .int .i64 0, .string ⟨⟨[]⟩⟩, .string ⟨⟨[121]⟩⟩, .int .i64 0, .int .i64 0, .string ⟨⟨[]⟩⟩] 4),
  (18, .cells [.int .i64 0, .int .i64 1] 1),
  (19, .cells [.int .i64 0, .int .i64 1] 1),
  (20, .cells [.int .i64 1, .int .i64 1, .string ⟨⟨[]⟩⟩, .int .i64 1, .int .i64 2, .string ⟨⟨[]⟩⟩] 3),
  (21, .cells [.int .i64 1, .int .i64 1, .string ⟨⟨[]⟩⟩, .int .i64 1, .int .i64 3, .string ⟨⟨[]⟩⟩] 3),
  (22, .cells [.int .i64 1, .int .i64 2, .string ⟨⟨[]⟩⟩, .int .i64 1, .int .i64 3, .string ⟨⟨[]⟩⟩] 3),
  (23, .cells [.int .i64 1, .int .i64 3, .string ⟨⟨[]⟩⟩] 3)]
def cRaM : Nat := 24
def cRaV : Value := .tuple ⟨[.iface 432 (.agg ⟨[.iface 429 (.agg ⟨[.slice (some ⟨3960, 0, none⟩) 1 1, .slice (some ⟨3962, 0, none⟩) 1 1, .slice (some ⟨3966, 0, none⟩) 1 1, .slice (some ⟨3969, 0, none⟩) 1 1, .slice (some ⟨3920, 0, none⟩) 1 1]⟩), .slice (some ⟨4026, 0, none⟩) 1 1]⟩), .int .i64 20, .int .i64 0]⟩
def cRaL : Go.Clo.Lit := [(3639, .cells [.int .u32 1] 1),
  (3740, .cells [.int .u32 1] 1),
  (3814, .cells [.int .i64 1, .int .i64 2, .string ⟨⟨[]⟩⟩, .slice (some ⟨3740, 0, none⟩) 1 1, .pointer none, .pointer none, .int .i64 1, .int .i64 1, .slice (some ⟨3818, 0, none⟩) 1 1] 0),
  (3818, .cells [.int .u32 1, .int .u32 0] 0),
  (3881, .cells [.int .i64 1, .int .i64 1, .string ⟨⟨[]⟩⟩, .slice (some ⟨3639, 0, none⟩) 1 1, .pointer none, .pointer (some ⟨3814, 0, none⟩), .int .i64 2, .int .i64 2, .slice (some ⟨3885, 0, none⟩) 1 1] 0),
  (3885, .cells [.int .u32 2, .int .u32 0] 0),
  (3920, .cells [.int .u32 2, .int .u32 0] 0),
  (3960, .cells [.bool false] 1),
  (3962, .cells [.int .i64 0, .int .u32 0, .int .i64 (-1)] 3),
  (3966, .cells [.slice (some ⟨4002, 0, none⟩) 1 1] 0),
  (3969, .cells [.map (some 3985)] 0),
  (3985, .map [⟨.string ⟨⟨[]⟩⟩, .int .i64 0, 0⟩] 1),
  (4001, .cells [] 0),
  (4002, .cells [.slice (some ⟨4001, 0, none⟩) 0 0, .bool false, .pointer (some ⟨3881, 0, none⟩)] 3),
  (4026, .cells [.int .i64 0] 1)]
def cRaN : Nat := 4032
set_option maxRecDepth 1000000 in
theorem rcRa : litRun Tryz.prog orc1 dok 85 cRaA cRaP cRaM cRaV (cRaL ++ cRaP) cRaN = true := by kernel_rfl
noncomputable def cRaO : O := embR cRaA cRaP cRaM cRaV cRaL cRaN
theorem cRa_ok {args : List Value} {H : Heap} {nx : Nat} {v : Value} {H' : Heap} {nx' : Nat} (h : cRaO args H nx = some (v, H', nx')) : CS Tryz.prog 85 args H nx v H' nx' :=
  embR_ok (litRun_cs mixed namesOK orc1_ok dok_ok rcRa) (by kernel_rfl) h
end Go.Proofs.YtaiefmkapnekiaaGreatDoor
