/-
  planner.Make and planner.Run on query 1: closed runs under names of their own.
-/
import Derived.Test.YtaiefmkapnekiaaGreatDoorH38
set_option linter.all false
namespace Go.Proofs.YtaiefmkapnekiaaGreatDoor
open Go.Clo
-- ordinal/planner.Make
def cM1aA : List Value := [.agg ⟨[.slice (some ⟨0, 0, none⟩) 2 2, .int .i64 0, .string ⟨⟨[]⟩⟩, .slice (some ⟨1, 0, none⟩) 1 1, .slice (some ⟨2, 0, none⟩) 1 1]⟩, .slice (some ⟨3, 0, none⟩) 2 2, .agg ⟨[.bool false, .slice (some ⟨4, 0, none⟩) 1 1, .slice (some ⟨5, 0, none⟩) 1 1]⟩]
def cM1aP : Go.Clo.Lit := [(0, .cells [.string ⟨⟨[120]⟩⟩, .string ⟨⟨[121]⟩⟩] 0),
  (1, .cells [.slice (some ⟨6, 0, none⟩) 2 2, .slice none 0 0] 0),
  (2, .cells [.string ⟨⟨[121]⟩⟩, .bool true] 0),
  (3, .cells [.string ⟨⟨[114]⟩⟩, .slice (some ⟨7, 0, none⟩) 2 2, .string ⟨⟨[115]⟩⟩, .slice (some ⟨8, 0, none⟩) 1 1] 0),
  (4, .cells [.int .u32 1] 1),
  (5, .cells [.int .u32 1, .int .u32 0] 0),
  (6, .cells [.bool false, .string ⟨⟨[114]⟩⟩, .slice (some ⟨9, 0, none⟩) 2 2, .bool false, .string ⟨⟨[115]⟩⟩, .slice (some ⟨10, 0, none⟩) 1 1] 0),
  (7, .cells [.int .i64 1, .int .i64 1] 1),
  (8, .cells [.int .i64 1] 1),
  (9, .cells [.string ⟨⟨[120]⟩⟩, .int .i64 0, .int .i64 0, .string ⟨⟨[]⟩⟩, .string ⟨⟨[121]⟩⟩, .int .i64 0, .int .i64 0, .string ⟨⟨[]⟩⟩] 4),
  (10, .cells [.string ⟨⟨[121]⟩⟩, .int .i64 0, .int .i64 0, .string ⟨⟨[]⟩⟩] 4)]
def cM1aM : Nat := 11
def cM1aV : Value := .tuple ⟨[.agg ⟨[.slice (some ⟨670, 0, none⟩) 2 2, .int .i64 0, .string ⟨⟨[]⟩⟩, .slice (some ⟨712, 0, none⟩) 1 1, .slice (some ⟨671, 0, none⟩) 1 1, .slice (some ⟨664, 0, none⟩) 1 1]⟩, .agg ⟨[.int .u32 0, .int .i64 0, .slice none 0 0, .slice none 0 0]⟩, .int .i64 0]⟩
def cM1aL : Go.Clo.Lit := [(356, .cells [.string ⟨⟨[121]⟩⟩, .string ⟨⟨[120]⟩⟩] 1),
  (358, .cells [.bool true, .bool false] 1),
  (427, .cells [.int .i64 0, .int .i64 1] 1),
  (507, .cells [.int .i64 1, .int .i64 0] 1),
  (546, .cells [.int .i64 0] 1),
  (562, .cells [.int .i64 0] 1),
  (565, .cells [.string ⟨⟨[114]⟩⟩, .slice (some ⟨427, 0, none⟩) 2 2, .slice (some ⟨507, 0, none⟩) 2 2, .slice none 0 0, .slice none 0 0, .slice none 0 0, .string ⟨⟨[115]⟩⟩, .slice (some ⟨546, 0, none⟩) 1 1, .slice (some ⟨562, 0, none⟩) 1 1, .slice none 0 0, .slice none 0 0, .slice none 0 0] 6),
  (664, .cells [.slice (some ⟨356, 0, none⟩) 2 2, .int .i64 2, .slice (some ⟨358, 0, none⟩) 2 2, .slice (some ⟨565, 0, none⟩) 2 2, .int .i64 0, .slice none 0 0, .slice none 0 0, .slice none 0 0, .bool false, .slice (some ⟨1858, 0, none⟩) 1 1, .slice (some ⟨1860, 0, none⟩) 1 1] 0),
  (670, .cells [.string ⟨⟨[120]⟩⟩, .string ⟨⟨[121]⟩⟩] 1),
  (671, .cells [.string ⟨⟨[121]⟩⟩, .bool true] 2),
  (673, .cells [] 0),
  (691, .cells [.string ⟨⟨[120]⟩⟩, .int .i64 0, .int .i64 0, .string ⟨⟨[]⟩⟩, .string ⟨⟨[121]⟩⟩, .int .i64 0, .int .i64 0, .string ⟨⟨[]⟩⟩] 4),
  (709, .cells [.string ⟨⟨[121]⟩⟩, .int .i64 0, .int .i64 0, .string ⟨⟨[]⟩⟩] 4),
  (710, .cells [.bool false, .string ⟨⟨[114]⟩⟩, .slice (some ⟨691, 0, none⟩) 2 2, .bool false, .string ⟨⟨[115]⟩⟩, .slice (some ⟨709, 0, none⟩) 1 1] 3),
  (712, .cells [.slice (some ⟨710, 0, none⟩) 2 2, .slice (some ⟨673, 0, none⟩) 0 0] 2),
  (1858, .cells [.int .u32 1] 1),
  (1860, .cells [.int .u32 1] 1)]
def cM1aN : Nat := 1877
set_option maxRecDepth 1000000 in
theorem rcM1a : litRun Tryz.prog orc1 dok 83 cM1aA cM1aP cM1aM cM1aV (cM1aL ++ cM1aP) cM1aN = true := by kernel_rfl
noncomputable def cM1aO : O := embR cM1aA cM1aP cM1aM cM1aV cM1aL cM1aN
theorem cM1a_ok {args : List Value} {H : Heap} {nx : Nat} {v : Value} {H' : Heap} {nx' : Nat} (h : cM1aO args H nx = some (v, H', nx')) : CS Tryz.prog 83 args H nx v H' nx' :=
  embR_ok (litRun_cs mixed namesOK orc1_ok dok_ok rcM1a) (by kernel_rfl) h
-- ordinal/planner.Make
def cM1bA : List Value := [.agg ⟨[.slice (some ⟨0, 0, none⟩) 2 2, .int .i64 0, .string ⟨⟨[]⟩⟩, .slice (some ⟨1, 0, none⟩) 1 1, .slice (some ⟨2, 0, none⟩) 1 1]⟩, .slice (some ⟨3, 0, none⟩) 2 2, .agg ⟨[.bool false, .slice (some ⟨4, 0, none⟩) 1 1, .slice (some ⟨5, 0, none⟩) 1 1]⟩]
def cM1bP : Go.Clo.Lit := [(0, .cells [.string ⟨⟨[120]⟩⟩, .string ⟨⟨[121]⟩⟩] 1),
  (1, .cells [.slice (some ⟨6, 0, none⟩) 2 2, .slice (some ⟨7, 0, none⟩) 0 0] 2),
  (2, .cells [.string ⟨⟨[121]⟩⟩, .bool true] 2),
  (3, .cells [.string ⟨⟨[114]⟩⟩, .slice (some ⟨8, 0, none⟩) 2 2, .string ⟨⟨[115]⟩⟩, .slice (some ⟨9, 0, none⟩) 1 1] 0),
  (4, .cells [.int .u32 1] 1),
  (5, .cells [.int .u32 1, .int .u32 0] 0),
  (6, .cells [.bool false, .string ⟨⟨[114]⟩⟩, .slice (some ⟨10, 0, none⟩) 2 2, .bool false, .string ⟨⟨[115]⟩⟩, .slice (some ⟨11, 0, none⟩) 1 1] 3),
  (7, .cells [] 0),
  (8, .cells [.int .i64 1, .int .i64 1] 1),
  (9, .cells [.int .i64 1] 1),
  (10, .cells [.string ⟨⟨[120]⟩⟩, .int .i64 0, .int .i64 0, .string ⟨⟨[]⟩⟩, .string ⟨⟨[121]⟩⟩, .int .i64 0, .int .i64 0, .string ⟨⟨[]⟩⟩] 4),
  (11, .cells [.string ⟨⟨[121]⟩⟩, .int .i64 0, .int .i64 0, .string ⟨⟨[]⟩⟩] 4)]
def cM1bM : Nat := 12
def cM1bV : Value := .tuple ⟨[.agg ⟨[.slice (some ⟨671, 0, none⟩) 2 2, .int .i64 0, .string ⟨⟨[]⟩⟩, .slice (some ⟨713, 0, none⟩) 1 1, .slice (some ⟨672, 0, none⟩) 1 1, .slice (some ⟨665, 0, none⟩) 1 1]⟩, .agg ⟨[.int .u32 0, .int .i64 0, .slice none 0 0, .slice none 0 0]⟩, .int .i64 0]⟩
def cM1bL : Go.Clo.Lit := [(357, .cells [.string ⟨⟨[121]⟩⟩, .string ⟨⟨[120]⟩⟩] 1),
  (359, .cells [.bool true, .bool false] 1),
  (428, .cells [.int .i64 0, .int .i64 1] 1),
  (508, .cells [.int .i64 1, .int .i64 0] 1),
  (547, .cells [.int .i64 0] 1),
  (563, .cells [.int .i64 0] 1),
  (566, .cells [.string ⟨⟨[114]⟩⟩, .slice (some ⟨428, 0, none⟩) 2 2, .slice (some ⟨508, 0, none⟩) 2 2, .slice none 0 0, .slice none 0 0, .slice none 0 0, .string ⟨⟨[115]⟩⟩, .slice (some ⟨547, 0, none⟩) 1 1, .slice (some ⟨563, 0, none⟩) 1 1, .slice none 0 0, .slice none 0 0, .slice none 0 0] 6),
  (665, .cells [.slice (some ⟨357, 0, none⟩) 2 2, .int .i64 2, .slice (some ⟨359, 0, none⟩) 2 2, .slice (some ⟨566, 0, none⟩) 2 2, .int .i64 0, .slice none 0 0, .slice none 0 0, .slice none 0 0, .bool false, .slice (some ⟨1859, 0, none⟩) 1 1, .slice (some ⟨1861, 0, none⟩) 1 1] 0),
  (671, .cells [.string ⟨⟨[120]⟩⟩, .string ⟨⟨[121]⟩⟩] 1),
  (672, .cells [.string ⟨⟨[121]⟩⟩, .bool true] 2),
  (674, .cells [] 0),
  (692, .cells [.string ⟨⟨[120]⟩⟩, .int .i64 0, .int .i64 0, .string ⟨⟨[]⟩⟩, .string ⟨⟨[121]⟩⟩, .int .i64 0, .int .i64 0, .string ⟨⟨[]⟩⟩] 4),
  (710, .cells [.string ⟨⟨[121]⟩⟩, .int .i64 0, .int .i64 0, .string ⟨⟨[]⟩⟩] 4),
  (711, .cells [.bool false, .string ⟨⟨[114]⟩⟩, .slice (some ⟨692, 0, none⟩) 2 2, .bool false, .string ⟨⟨[115]⟩⟩, .slice (some ⟨710, 0, none⟩) 1 1] 3),
  (713, .cells [.slice (some ⟨711, 0, none⟩) 2 2, .slice (some ⟨674, 0, none⟩) 0 0] 2),
  (1859, .cells [.int .u32 1] 1),
  (1861, .cells [.int .u32 1] 1)]
def cM1bN : Nat := 1878
set_option maxRecDepth 1000000 in
theorem rcM1b : litRun Tryz.prog orc1 dok 83 cM1bA cM1bP cM1bM cM1bV (cM1bL ++ cM1bP) cM1bN = true := by kernel_rfl
noncomputable def cM1bO : O := embR cM1bA cM1bP cM1bM cM1bV cM1bL cM1bN
theorem cM1b_ok {args : List Value} {H : Heap} {nx : Nat} {v : Value} {H' : Heap} {nx' : Nat} (h : cM1bO args H nx = some (v, H', nx')) : CS Tryz.prog 83 args H nx v H' nx' :=
  embR_ok (litRun_cs mixed namesOK orc1_ok dok_ok rcM1b) (by kernel_rfl) h
-- ordinal/planner.Run
def cR1aA : List Value := [.agg ⟨[.slice (some ⟨0, 0, none⟩) 2 2, .int .i64 0, .string ⟨⟨[]⟩⟩, .slice (some ⟨1, 0, none⟩) 1 1, .slice (some ⟨2, 0, none⟩) 1 1, .slice (some ⟨3, 0, none⟩) 1 1]⟩, .agg ⟨[.map (some 4)]⟩]
def cR1aP : Go.Clo.Lit := [(0, .cells [.string ⟨⟨[120]⟩⟩, .string ⟨⟨[121]⟩⟩] 1),
  (1, .cells [.slice (some ⟨5, 0, none⟩) 2 2, .slice (some ⟨6, 0, none⟩) 0 0] 2),
  (2, .cells [.string ⟨⟨[121]⟩⟩, .bool true] 2),
  (3, .cells [.slice (some ⟨7, 0, none⟩) 2 2, .int .i64 2, .slice (some ⟨8, 0, none⟩) 2 2, .slice (some ⟨9, 0, none⟩) 2 2, .int .i64 0, .slice none 0 0, .slice none 0 0, .slice none 0 0, .bool false, .slice (some ⟨10, 0, none⟩) 1 1, .slice (some ⟨11, 0, none⟩) 1 1] 0),
  (4, .map [⟨.string ⟨⟨[114]⟩⟩, .agg ⟨[.slice (some ⟨12, 0, none⟩) 2 2, .int .i64 2, .slice (some ⟨13, 0, none⟩) 3 3]⟩, 0⟩, ⟨.string ⟨⟨[115]⟩⟩, .agg ⟨[.slice (some ⟨14, 0, none⟩) 1 1, .int .i64 1, .slice (some ⟨15, 0, none⟩) 1 1]⟩, 1⟩] 2),
  (5, .cells [.bool false, .string ⟨⟨[114]⟩⟩, .slice (some ⟨16, 0, none⟩) 2 2, .bool false, .string ⟨⟨[115]⟩⟩, .slice (some ⟨17, 0, none⟩) 1 1] 3),
  (6, .cells [] 0),
  (7, .cells [.string ⟨⟨[121]⟩⟩, .string ⟨⟨[120]⟩⟩] 1),
  (8, .cells [.bool true, .bool false] 1),
  (9, .cells [.string ⟨⟨[114]⟩⟩, .slice (some ⟨18, 0, none⟩) 2 2, .slice (some ⟨19, 0, none⟩) 2 2, .slice none 0 0, .slice none 0 0, .slice none 0 0, .string ⟨⟨[115]⟩⟩, .slice (some ⟨20, 0, none⟩) 1 1, .slice (some ⟨21, 0, none⟩) 1 1, .slice none 0 0, .slice none 0 0, .slice none 0 0] 6),
  (10, .cells [.int .u32 1] 1),
  (11, .cells [.int .u32 1] 1),
  (12, .cells [.int .i64 1, .int .i64 1] 1),
  (13, .cells [.slice (some ⟨22, 0, none⟩) 2 2, .slice (some ⟨23, 0, none⟩) 2 2, .slice (some ⟨24, 0, none⟩) 2 2] 0),
  (14, .cells [.int .i64 1] 1),
  (15, .cells [.slice (some ⟨25, 0, none⟩) 1 1] 0),
  (16, .cells [.string ⟨⟨[120]⟩⟩, .int .i64 0, .int .i64 0, .string ⟨⟨[]⟩⟩, .string ⟨⟨[121]⟩⟩, .int .i64 0, .int .i64 0, .string ⟨⟨[]⟩⟩] 4),
  (17, .cells [.string ⟨⟨[121]⟩⟩, .int .i64 0, .int .i64 0, .string ⟨⟨[]⟩⟩] 4),
  (18, .cells [.int .i64 0, .int .i64 1] 1),
  (19, .cells [.int .i64 1, .int .i64 0] 1),
  (20, .cells [.int .i64 0] 1),
  (21, .cells [.int .i64 0] 1),
  (22, .cells [.int .i64 1, .int .i64 1, .string ⟨⟨[]⟩⟩, .int .i64 1, .int .i64 2, .string ⟨⟨[]⟩⟩] 3),
  (23, .cells [.int .i64 1, .int .i64 1, .string ⟨⟨[]⟩⟩, .int .i64 1, .int .i64 3, .string ⟨⟨[]⟩⟩] 3),
  (24, .cells [.int .i64 1, .int .i64 2, .string ⟨⟨[]⟩⟩, .int .i64 1, .int .i64 3, .string ⟨⟨[]⟩⟩] 3),
  (25, .cells [.int .i64 1, .int .i64 3, .string ⟨⟨[]⟩⟩] 3)]
def cR1aM : Nat := 26
def cR1aV : Value := .tuple ⟨[.iface 432 (.agg ⟨[.iface 429 (.agg ⟨[.slice (some ⟨4458, 0, none⟩) 2 2, .slice (some ⟨4460, 0, none⟩) 2 2, .slice (some ⟨4464, 0, none⟩) 2 2, .slice (some ⟨4467, 0, none⟩) 2 2, .slice (some ⟨4418, 0, none⟩) 1 1]⟩), .slice (some ⟨4581, 0, none⟩) 2 2]⟩), .int .i64 26, .int .i64 0]⟩
def cR1aL : Go.Clo.Lit := [(3951, .cells [.int .u32 1] 1),
  (4032, .cells [.int .u32 1] 1),
  (4106, .cells [.int .i64 1, .int .i64 2, .string ⟨⟨[]⟩⟩, .slice (some ⟨4032, 0, none⟩) 1 1, .pointer none, .pointer none, .int .i64 1, .int .i64 1, .slice (some ⟨4110, 0, none⟩) 1 1] 0),
  (4110, .cells [.int .u32 1, .int .u32 0] 0),
  (4173, .cells [.int .i64 1, .int .i64 1, .string ⟨⟨[]⟩⟩, .slice (some ⟨3951, 0, none⟩) 1 1, .pointer none, .pointer (some ⟨4106, 0, none⟩), .int .i64 2, .int .i64 2, .slice (some ⟨4177, 0, none⟩) 1 1] 0),
  (4177, .cells [.int .u32 2, .int .u32 0] 0),
  (4337, .cells [.int .u32 2] 1),
  (4377, .cells [.int .i64 1, .int .i64 3, .string ⟨⟨[]⟩⟩, .slice (some ⟨4337, 0, none⟩) 1 1, .pointer none, .pointer none, .int .i64 1, .int .i64 1, .slice (some ⟨4381, 0, none⟩) 1 1] 0),
  (4381, .cells [.int .u32 2, .int .u32 0] 0),
  (4418, .cells [.int .u32 2, .int .u32 0] 0),
  (4458, .cells [.bool true, .bool false] 1),
  (4460, .cells [.int .i64 0, .int .u32 0, .int .i64 (-1), .int .i64 1, .int .u32 1, .int .i64 0] 3),
  (4464, .cells [.slice (some ⟨4500, 0, none⟩) 1 1, .slice (some ⟨4541, 0, none⟩) 1 1] 0),
  (4467, .cells [.map (some 4483), .map (some 4523)] 0),
  (4483, .map [⟨.string ⟨⟨[]⟩⟩, .int .i64 0, 0⟩] 1),
  (4499, .cells [] 0),
  (4500, .cells [.slice (some ⟨4499, 0, none⟩) 0 0, .bool true, .pointer (some ⟨4377, 0, none⟩)] 3),
  (4523, .map [⟨.string ⟨⟨[49, 44, 51, 44, 48, 44]⟩⟩, .int .i64 0, 0⟩] 1),
  (4540, .cells [.int .i64 1, .int .i64 3, .string ⟨⟨[]⟩⟩] 3),
  (4541, .cells [.slice (some ⟨4540, 0, none⟩) 1 1, .bool false, .pointer (some ⟨4173, 0, none⟩)] 3),
  (4581, .cells [.int .i64 1, .int .i64 0] 1)]
def cR1aN : Nat := 4587
set_option maxRecDepth 1000000 in
theorem rcR1a : litRun Tryz.prog orc1 dok 85 cR1aA cR1aP cR1aM cR1aV (cR1aL ++ cR1aP) cR1aN = true := by kernel_rfl
noncomputable def cR1aO : O := embR cR1aA cR1aP cR1aM cR1aV cR1aL cR1aN
theorem cR1a_ok {args : List Value} {H : Heap} {nx : Nat} {v : Value} {H' : Heap} {nx' : Nat} (h : cR1aO args H nx = some (v, H', nx')) : CS Tryz.prog 85 args H nx v H' nx' :=
  embR_ok (litRun_cs mixed namesOK orc1_ok dok_ok rcR1a) (by kernel_rfl) h
noncomputable def mkF1 : O := orO cM1aO cM1bO
theorem mkF1_ok : OK1 83 mkF1 := orO_ok @cM1a_ok (@cM1b_ok)
noncomputable def rnF1 : O := cR1aO
theorem rnF1_ok : OK1 85 rnF1 := @cR1a_ok
end Go.Proofs.YtaiefmkapnekiaaGreatDoor
