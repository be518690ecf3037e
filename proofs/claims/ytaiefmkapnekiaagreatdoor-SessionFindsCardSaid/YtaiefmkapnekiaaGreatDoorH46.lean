/-
  planner.Make and planner.Run on query 3: closed runs under names of their own.
-/
import Derived.Test.YtaiefmkapnekiaaGreatDoorH38
set_option linter.all false
namespace Go.Proofs.YtaiefmkapnekiaaGreatDoor
open Go.Clo
-- ordinal/planner.Make
def cM3aA : List Value := [.agg ⟨[.slice (some ⟨0, 0, none⟩) 1 1, .int .i64 0, .string ⟨⟨[]⟩⟩, .slice (some ⟨1, 0, none⟩) 2 2, .slice (some ⟨2, 0, none⟩) 1 1]⟩, .slice (some ⟨3, 0, none⟩) 2 2, .agg ⟨[.bool false, .slice (some ⟨4, 0, none⟩) 1 1, .slice (some ⟨5, 0, none⟩) 1 1]⟩]
def cM3aP : Go.Clo.Lit := [(0, .cells [.string ⟨⟨[120]⟩⟩] 0),
  (1, .cells [.slice (some ⟨6, 0, none⟩) 1 1, .slice none 0 0, .slice (some ⟨7, 0, none⟩) 1 1, .slice none 0 0] 0),
  (2, .cells [.string ⟨⟨[120]⟩⟩, .bool true] 0),
  (3, .cells [.string ⟨⟨[114]⟩⟩, .slice (some ⟨8, 0, none⟩) 2 2, .string ⟨⟨[115]⟩⟩, .slice (some ⟨9, 0, none⟩) 1 1] 0),
  (4, .cells [.int .u32 1] 1),
  (5, .cells [.int .u32 1, .int .u32 0] 0),
  (6, .cells [.bool false, .string ⟨⟨[114]⟩⟩, .slice (some ⟨10, 0, none⟩) 2 2] 0),
  (7, .cells [.bool false, .string ⟨⟨[115]⟩⟩, .slice (some ⟨11, 0, none⟩) 1 1] 0),
  (8, .cells [.int .i64 1, .int .i64 1] 1),
  (9, .cells [.int .i64 1] 1),
  (10, .cells [.string ⟨⟨[120]⟩⟩, .int .i64 0, .int .i64 0, .string ⟨⟨[]⟩⟩, .string ⟨⟨[121]⟩⟩, .int .i64 0, .int .i64 0, .string ⟨⟨[]⟩⟩] 4),
  (11, .cells [.string ⟨⟨[120]⟩⟩, .int .i64 0, .int .i64 0, .string ⟨⟨[]⟩⟩] 4)]
def cM3aM : Nat := 12
def cM3aV : Value := .tuple ⟨[.agg ⟨[.slice (some ⟨881, 0, none⟩) 1 1, .int .i64 0, .string ⟨⟨[]⟩⟩, .slice (some ⟨928, 0, none⟩) 2 2, .slice (some ⟨882, 0, none⟩) 1 1, .slice (some ⟨875, 0, none⟩) 2 2]⟩, .agg ⟨[.int .u32 0, .int .i64 0, .slice none 0 0, .slice none 0 0]⟩, .int .i64 0]⟩
def cM3aL : Go.Clo.Lit := [(387, .cells [.bool true] 1),
  (411, .cells [.string ⟨⟨[120]⟩⟩, .string ⟨⟨[121]⟩⟩] 1),
  (467, .cells [.int .i64 0, .int .i64 1] 1),
  (514, .cells [.int .i64 0, .int .i64 1] 1),
  (516, .cells [.string ⟨⟨[114]⟩⟩, .slice (some ⟨467, 0, none⟩) 2 2, .slice (some ⟨514, 0, none⟩) 2 2, .slice none 0 0, .slice none 0 0, .slice none 0 0] 6),
  (712, .cells [.string ⟨⟨[120]⟩⟩] 1),
  (714, .cells [.bool true] 1),
  (758, .cells [.int .i64 0] 1),
  (774, .cells [.int .i64 0] 1),
  (776, .cells [.string ⟨⟨[115]⟩⟩, .slice (some ⟨758, 0, none⟩) 1 1, .slice (some ⟨774, 0, none⟩) 1 1, .slice none 0 0, .slice none 0 0, .slice none 0 0] 6),
  (875, .cells [.slice (some ⟨411, 0, none⟩) 2 2, .int .i64 1, .slice (some ⟨387, 0, none⟩) 1 1, .slice (some ⟨516, 0, none⟩) 1 1, .int .i64 0, .slice (some ⟨1861, 0, none⟩) 1 1, .slice none 0 0, .slice (some ⟨2569, 0, none⟩) 1 1, .bool false, .slice (some ⟨2326, 0, none⟩) 1 1, .slice (some ⟨2328, 0, none⟩) 1 1, .slice (some ⟨712, 0, none⟩) 1 1, .int .i64 1, .slice (some ⟨714, 0, none⟩) 1 1, .slice (some ⟨776, 0, none⟩) 1 1, .int .i64 0, .slice none 0 0, .slice none 0 0, .slice none 0 0, .bool false, .slice (some ⟨3022, 0, none⟩) 1 1, .slice (some ⟨3024, 0, none⟩) 1 1] 0),
  (881, .cells [.string ⟨⟨[120]⟩⟩] 1),
  (882, .cells [.string ⟨⟨[120]⟩⟩, .bool true] 2),
  (884, .cells [] 0),
  (902, .cells [.string ⟨⟨[120]⟩⟩, .int .i64 0, .int .i64 0, .string ⟨⟨[]⟩⟩, .string ⟨⟨[121]⟩⟩, .int .i64 0, .int .i64 0, .string ⟨⟨[]⟩⟩] 4),
  (903, .cells [.bool false, .string ⟨⟨[114]⟩⟩, .slice (some ⟨902, 0, none⟩) 2 2] 3),
  (907, .cells [] 0),
  (925, .cells [.string ⟨⟨[120]⟩⟩, .int .i64 0, .int .i64 0, .string ⟨⟨[]⟩⟩] 4),
  (926, .cells [.bool false, .string ⟨⟨[115]⟩⟩, .slice (some ⟨925, 0, none⟩) 1 1] 3),
  (928, .cells [.slice (some ⟨903, 0, none⟩) 1 1, .slice (some ⟨884, 0, none⟩) 0 0, .slice (some ⟨926, 0, none⟩) 1 1, .slice (some ⟨907, 0, none⟩) 0 0] 2),
  (1861, .cells [.int .i64 1] 1),
  (2326, .cells [.int .u32 1] 1),
  (2328, .cells [.int .u32 1] 1),
  (2569, .cells [.int .i64 1] 1),
  (3022, .cells [.int .u32 1] 1),
  (3024, .cells [.int .u32 1] 1)]
def cM3aN : Nat := 4825
set_option maxRecDepth 1000000 in
theorem rcM3a : litRun Tryz.prog orc1 dok 83 cM3aA cM3aP cM3aM cM3aV (cM3aL ++ cM3aP) cM3aN = true := by kernel_rfl
noncomputable def cM3aO : O := embR cM3aA cM3aP cM3aM cM3aV cM3aL cM3aN
theorem cM3a_ok {args : List Value} {H : Heap} {nx : Nat} {v : Value} {H' : Heap} {nx' : Nat} (h : cM3aO args H nx = some (v, H', nx')) : CS Tryz.prog 83 args H nx v H' nx' :=
  embR_ok (litRun_cs mixed namesOK orc1_ok dok_ok rcM3a) (by kernel_rfl) h
-- ordinal/planner.Make
def cM3bA : List Value := [.agg ⟨[.slice (some ⟨0, 0, none⟩) 1 1, .int .i64 0, .string ⟨⟨[]⟩⟩, .slice (some ⟨1, 0, none⟩) 2 2, .slice (some ⟨2, 0, none⟩) 1 1]⟩, .slice (some ⟨3, 0, none⟩) 2 2, .agg ⟨[.bool false, .slice (some ⟨4, 0, none⟩) 1 1, .slice (some ⟨5, 0, none⟩) 1 1]⟩]
def cM3bP : Go.Clo.Lit := [(0, .cells [.string ⟨⟨[120]⟩⟩] 1),
  (1, .cells [.slice (some ⟨6, 0, none⟩) 1 1, .slice (some ⟨7, 0, none⟩) 0 0, .slice (some ⟨8, 0, none⟩) 1 1, .slice (some ⟨9, 0, none⟩) 0 0] 2),
  (2, .cells [.string ⟨⟨[120]⟩⟩, .bool true] 2),
  (3, .cells [.string ⟨⟨[114]⟩⟩, .slice (some ⟨10, 0, none⟩) 2 2, .string ⟨⟨[115]⟩⟩, .slice (some ⟨11, 0, none⟩) 1 1] 0),
  (4, .cells [.int .u32 1] 1),
  (5, .cells [.int .u32 1, .int .u32 0] 0),
  (6, .cells [.bool false, .string ⟨⟨[114]⟩⟩, .slice (some ⟨12, 0, none⟩) 2 2] 3),
  (7, .cells [] 0),
  (8, .cells [.bool false, .string ⟨⟨[115]⟩⟩, .slice (some ⟨13, 0, none⟩) 1 1] 3),
  (9, .cells [] 0),
  (10, .cells [.int .i64 1, .int .i64 1] 1),
  (11, .cells [.int .i64 1] 1),
  (12, .cells [.string ⟨⟨[120]⟩⟩, .int .i64 0, .int .i64 0, .string ⟨⟨[]⟩⟩, .string ⟨⟨[121]⟩⟩, .int .i64 0, .int .i64 0, .string ⟨⟨[]⟩⟩] 4),
  (13, .cells [.string ⟨⟨[120]⟩⟩, .int .i64 0, .int .i64 0, .string ⟨⟨[]⟩⟩] 4)]
def cM3bM : Nat := 14
def cM3bV : Value := .tuple ⟨[.agg ⟨[.slice (some ⟨883, 0, none⟩) 1 1, .int .i64 0, .string ⟨⟨[]⟩⟩, .slice (some ⟨930, 0, none⟩) 2 2, .slice (some ⟨884, 0, none⟩) 1 1, .slice (some ⟨877, 0, none⟩) 2 2]⟩, .agg ⟨[.int .u32 0, .int .i64 0, .slice none 0 0, .slice none 0 0]⟩, .int .i64 0]⟩
def cM3bL : Go.Clo.Lit := [(389, .cells [.bool true] 1),
  (413, .cells [.string ⟨⟨[120]⟩⟩, .string ⟨⟨[121]⟩⟩] 1),
  (469, .cells [.int .i64 0, .int .i64 1] 1),
  (516, .cells [.int .i64 0, .int .i64 1] 1),
  (518, .cells [.string ⟨⟨[114]⟩⟩, .slice (some ⟨469, 0, none⟩) 2 2, .slice (some ⟨516, 0, none⟩) 2 2, .slice none 0 0, .slice none 0 0, .slice none 0 0] 6),
  (714, .cells [.string ⟨⟨[120]⟩⟩] 1),
  (716, .cells [.bool true] 1),
  (760, .cells [.int .i64 0] 1),
  (776, .cells [.int .i64 0] 1),
  (778, .cells [.string ⟨⟨[115]⟩⟩, .slice (some ⟨760, 0, none⟩) 1 1, .slice (some ⟨776, 0, none⟩) 1 1, .slice none 0 0, .slice none 0 0, .slice none 0 0] 6),
  (877, .cells [.slice (some ⟨413, 0, none⟩) 2 2, .int .i64 1, .slice (some ⟨389, 0, none⟩) 1 1, .slice (some ⟨518, 0, none⟩) 1 1, .int .i64 0, .slice (some ⟨1863, 0, none⟩) 1 1, .slice none 0 0, .slice (some ⟨2571, 0, none⟩) 1 1, .bool false, .slice (some ⟨2328, 0, none⟩) 1 1, .slice (some ⟨2330, 0, none⟩) 1 1, .slice (some ⟨714, 0, none⟩) 1 1, .int .i64 1, .slice (some ⟨716, 0, none⟩) 1 1, .slice (some ⟨778, 0, none⟩) 1 1, .int .i64 0, .slice none 0 0, .slice none 0 0, .slice none 0 0, .bool false, .slice (some ⟨3024, 0, none⟩) 1 1, .slice (some ⟨3026, 0, none⟩) 1 1] 0),
  (883, .cells [.string ⟨⟨[120]⟩⟩] 1),
  (884, .cells [.string ⟨⟨[120]⟩⟩, .bool true] 2),
  (886, .cells [] 0),
  (904, .cells [.string ⟨⟨[120]⟩⟩, .int .i64 0, .int .i64 0, .string ⟨⟨[]⟩⟩, .string ⟨⟨[121]⟩⟩, .int .i64 0, .int .i64 0, .string ⟨⟨[]⟩⟩] 4),
  (905, .cells [.bool false, .string ⟨⟨[114]⟩⟩, .slice (some ⟨904, 0, none⟩) 2 2] 3),
  (909, .cells [] 0),
  (927, .cells [.string ⟨⟨[120]⟩⟩, .int .i64 0, .int .i64 0, .string ⟨⟨[]⟩⟩] 4),
  (928, .cells [.bool false, .string ⟨⟨[115]⟩⟩, .slice (some ⟨927, 0, none⟩) 1 1] 3),
  (930, .cells [.slice (some ⟨905, 0, none⟩) 1 1, .slice (some ⟨886, 0, none⟩) 0 0, .slice (some ⟨928, 0, none⟩) 1 1, .slice (some ⟨909, 0, none⟩) 0 0] 2),
  (1863, .cells [.int .i64 1] 1),
  (2328, .cells [.int .u32 1] 1),
  (2330, .cells [.int .u32 1] 1),
  (2571, .cells [.int .i64 1] 1),
  (3024, .cells [.int .u32 1] 1),
  (3026, .cells [.int .u32 1] 1)]
def cM3bN : Nat := 4827
set_option maxRecDepth 1000000 in
theorem rcM3b : litRun Tryz.prog orc1 dok 83 cM3bA cM3bP cM3bM cM3bV (cM3bL ++ cM3bP) cM3bN = true := by kernel_rfl
noncomputable def cM3bO : O := embR cM3bA cM3bP cM3bM cM3bV cM3bL cM3bN
theorem cM3b_ok {args : List Value} {H : Heap} {nx : Nat} {v : Value} {H' : Heap} {nx' : Nat} (h : cM3bO args H nx = some (v, H', nx')) : CS Tryz.prog 83 args H nx v H' nx' :=
  embR_ok (litRun_cs mixed namesOK orc1_ok dok_ok rcM3b) (by kernel_rfl) h
-- ordinal/planner.Run
def cR3aA : List Value := [.agg ⟨[.slice (some ⟨0, 0, none⟩) 1 1, .int .i64 0, .string ⟨⟨[]⟩⟩, .slice (some ⟨1, 0, none⟩) 2 2, .slice (some ⟨2, 0, none⟩) 1 1, .slice (some ⟨3, 0, none⟩) 2 2]⟩, .agg ⟨[.map (some 4)]⟩]
def cR3aP : Go.Clo.Lit := [(0, .cells [.string ⟨⟨[120]⟩⟩] 1),
  (1, .cells [.slice (some ⟨5, 0, none⟩) 1 1, .slice (some ⟨6, 0, none⟩) 0 0, .slice (some ⟨7, 0, none⟩) 1 1, .slice (some ⟨8, 0, none⟩) 0 0] 2),
  (2, .cells [.string ⟨⟨[120]⟩⟩, .bool true] 2),
  (3, .cells [.slice (some ⟨9, 0, none⟩) 2 2, .int .i64 1, .slice (some ⟨10, 0, none⟩) 1 1, .slice (some ⟨11, 0, none⟩) 1 1, .int .i64 0, .slice (some ⟨12, 0, none⟩) 1 1, .slice none 0 0, .slice (some ⟨13, 0, none⟩) 1 1, .bool false, .slice (some ⟨14, 0, none⟩) 1 1, .slice (some ⟨15, 0, none⟩) 1 1, .slice (some ⟨16, 0, none⟩) 1 1, .int .i64 1, .slice (some ⟨17, 0, none⟩) 1 1, .slice (some ⟨18, 0, none⟩) 1 1, .int .i64 0, .slice none 0 0, .slice none 0 0, .slice none 0 0, .bool false, .slice (some ⟨19, 0, none⟩) 1 1, .slice (some ⟨20, 0, none⟩) 1 1] 0),
  (4, .map [⟨.string ⟨⟨[114]⟩⟩, .agg ⟨[.slice (some ⟨21, 0, none⟩) 2 2, .int .i64 2, .slice (some ⟨22, 0, none⟩) 3 3]⟩, 0⟩, ⟨.string ⟨⟨[115]⟩⟩, .agg ⟨[.slice (some ⟨23, 0, none⟩) 1 1, .int .i64 1, .slice (some ⟨24, 0, none⟩) 1 1]⟩, 1⟩] 2),
  (5, .cells [.bool false, .string ⟨⟨[114]⟩⟩, .slice (some ⟨25, 0, none⟩) 2 2] 3),
  (6, .cells [] 0),
  (7, .cells [.bool false, .string ⟨⟨[115]⟩⟩, .slice (some ⟨26, 0, none⟩) 1 1] 3),
  (8, .cells [] 0),
  (9, .cells [.string ⟨⟨[120]⟩⟩, .string ⟨⟨[121]⟩⟩] 1),
  (10, .cells [.bool true] 1),
  (11, .cells [.string ⟨⟨[114]⟩⟩, .slice (some ⟨27, 0, none⟩) 2 2, .slice (some ⟨28, 0, none⟩) 2 2, .slice none 0 0, .slice none 0 0, .slice none 0 0] 6),
  (12, .cells [.int .i64 1] 1),
  (13, .cells [.int .i64 1] 1),
  (14, .cells [.int .u32 1] 1),
  (15, .cells [.int .u32 1] 1),
  (16, .cells [.string ⟨⟨[120]⟩⟩] 1),
  (17, .cells [.bool true] 1),
  (18, .cells [.string ⟨⟨[115]⟩⟩, .slice (some ⟨29, 0, none⟩) 1 1, .slice (some ⟨30, 0, none⟩) 1 1, .slice none 0 0, .slice none 0 0, .slice none 0 0] 6),
  (19, .cells [.int .u32 1] 1),
  (20, .cells [.int .u32 1] 1),
  (21, .cells [.int .i64 1, .int .i64 1] 1),
  (22, .cells [.slice (some ⟨31, 0, none⟩) 2 2, .slice (some ⟨32, 0, none⟩) 2 2, .slice (some ⟨33, 0, none⟩) 2 2] 0),
  (23, .cells [.int .i64 1] 1),
  (24, .cells [.slice (some ⟨34, 0, none⟩) 1 1] 0),
  (25, .cells [.string ⟨⟨[120]⟩⟩, .int .i64 0, .int .i64 0, .string ⟨⟨[]⟩⟩, .string ⟨⟨[121]⟩⟩, .int .i64 0, .int .i64 0, .string ⟨⟨[]⟩⟩] 4),
  (26, .cells [.string ⟨⟨[120]⟩⟩, .int .i64 0, .int .i64 0, .string ⟨⟨[]⟩⟩] 4),
  (27, .cells [.int .i64 0, .int .i64 1] 1),
  (28, .cells [.int .i64 0, .int .i64 1] 1),
  (29, .cells [.int .i64 0] 1),
  (30, .cells [.int .i64 0] 1),
  (31, .cells [.int .i64 1, .int .i64 1, .string ⟨⟨[]⟩⟩, .int .i64 1, .int .i64 2, .string ⟨⟨[]⟩⟩] 3),
  (32, .cells [.int .i64 1, .int .i64 1, .string ⟨⟨[]⟩⟩, .int .i64 1, .int .i64 3, .string ⟨⟨[]⟩⟩] 3),
  (33, .cells [.int .i64 1, .int .i64 2, .string ⟨⟨[]⟩⟩, .int .i64 1, .int .i64 3, .string ⟨⟨[]⟩⟩] 3),
  (34, .cells [.int .i64 1, .int .i64 3, .string ⟨⟨[]⟩⟩] 3)]
def cR3aM : Nat := 35
def cR3aV : Value := .tuple ⟨[.iface 432 (.agg ⟨[.iface 414 (.agg ⟨[.int .i64 2, .int .i64 1, .slice (some ⟨8271, 0, none⟩) 1 1, .slice (some ⟨8273, 0, none⟩) 3 3, .slice (some ⟨8269, 0, none⟩) 1 1]⟩), .slice (some ⟨8288, 0, none⟩) 1 1]⟩), .int .i64 39, .int .i64 0]⟩
def cR3aL : Go.Clo.Lit := [(3951, .cells [.int .u32 1] 1),
  (4052, .cells [.int .u32 1] 1),
  (4126, .cells [.int .i64 1, .int .i64 2, .string ⟨⟨[]⟩⟩, .slice (some ⟨4052, 0, none⟩) 1 1, .pointer none, .pointer none, .int .i64 1, .int .i64 1, .slice (some ⟨4130, 0, none⟩) 1 1] 0),
  (4130, .cells [.int .u32 1, .int .u32 0] 0),
  (4193, .cells [.int .i64 1, .int .i64 1, .string ⟨⟨[]⟩⟩, .slice (some ⟨3951, 0, none⟩) 1 1, .pointer (some ⟨4126, 0, none⟩), .pointer none, .int .i64 2, .int .i64 2, .slice (some ⟨4197, 0, none⟩) 1 1] 0),
  (4197, .cells [.int .u32 2, .int .u32 0] 0),
  (4232, .cells [.int .u32 2, .int .u32 0] 0),
  (4272, .cells [.bool true] 1),
  (4274, .cells [.int .i64 0, .int .u32 0, .int .i64 (-1)] 3),
  (4278, .cells [.slice (some ⟨4314, 0, none⟩) 1 1] 0),
  (4281, .cells [.map (some 4297)] 0),
  (4297, .map [⟨.string ⟨⟨[]⟩⟩, .int .i64 0, 0⟩] 1),
  (4313, .cells [] 0),
  (4314, .cells [.slice (some ⟨4313, 0, none⟩) 0 0, .bool true, .pointer (some ⟨4193, 0, none⟩)] 3),
  (5015, .cells [.int .u32 1] 1),
  (5055, .cells [.int .i64 1, .int .i64 3, .string ⟨⟨[]⟩⟩, .slice (some ⟨5015, 0, none⟩) 1 1, .pointer none, .pointer none, .int .i64 1, .int .i64 1, .slice (some ⟨5059, 0, none⟩) 1 1] 0),
  (5059, .cells [.int .u32 1, .int .u32 0] 0),
  (5094, .cells [.int .u32 1, .int .u32 0] 0),
  (5133, .cells [.bool true] 1),
  (5135, .cells [.int .i64 0, .int .u32 0, .int .i64 (-1)] 3),
  (5139, .cells [.slice (some ⟨5175, 0, none⟩) 1 1] 0),
  (5142, .cells [.map (some 5158)] 0),
  (5158, .map [⟨.string ⟨⟨[]⟩⟩, .int .i64 0, 0⟩] 1),
  (5174, .cells [] 0),
  (5175, .cells [.slice (some ⟨5174, 0, none⟩) 0 0, .bool true, .pointer (some ⟨5055, 0, none⟩)] 3),
  (8143, .cells [.int .u32 0] 0),
  (8162, .cells [.bool true] 1),
  (8164, .cells [.int .i64 0, .int .u32 0, .int .i64 (-1)] 3),
  (8168, .cells [.slice none 0 0] 0),
  (8171, .cells [.map (some 8187)] 0),
  (8187, .map [] 0),
  (8269, .cells [.int .u32 3] 0),
  (8271, .cells [.bool true] 1),
  (8273, .cells [.slice (some ⟨4272, 0, none⟩) 1 1, .slice (some ⟨4274, 0, none⟩) 1 1, .slice (some ⟨4278, 0, none⟩) 1 1, .slice (some ⟨4281, 0, none⟩) 1 1, .slice (some ⟨4232, 0, none⟩) 1 1, .slice (some ⟨5133, 0, none⟩) 1 1, .slice (some ⟨5135, 0, none⟩) 1 1, .slice (some ⟨5139, 0, none⟩) 1 1, .slice (some ⟨5142, 0, none⟩) 1 1, .slice (some ⟨5094, 0, none⟩) 1 1, .slice (some ⟨8162, 0, none⟩) 1 1, .slice (some ⟨8164, 0, none⟩) 1 1, .slice (some ⟨8168, 0, none⟩) 1 1, .slice (some ⟨8171, 0, none⟩) 1 1, .slice (some ⟨8143, 0, none⟩) 0 0] 5),
  (8288, .cells [.int .i64 0] 1)]
def cR3aN : Nat := 8294
set_option maxRecDepth 1000000 in
theorem rcR3a : litRun Tryz.prog orc1 dok 85 cR3aA cR3aP cR3aM cR3aV (cR3aL ++ cR3aP) cR3aN = true := by kernel_rfl
noncomputable def cR3aO : O := embR cR3aA cR3aP cR3aM cR3aV cR3aL cR3aN
theorem cR3a_ok {args : List Value} {H : Heap} {nx : Nat} {v : Value} {H' : Heap} {nx' : Nat} (h : cR3aO args H nx = some (v, H', nx')) : CS Tryz.prog 85 args H nx v H' nx' :=
  embR_ok (litRun_cs mixed namesOK orc1_ok dok_ok rcR3a) (by kernel_rfl) h
noncomputable def mkF3 : O := orO cM3aO cM3bO
theorem mkF3_ok : OK1 83 mkF3 := orO_ok @cM3a_ok (@cM3b_ok)
noncomputable def rnF3 : O := cR3aO
theorem rnF3_ok : OK1 85 rnF3 := @cR3a_ok
end Go.Proofs.YtaiefmkapnekiaaGreatDoor
