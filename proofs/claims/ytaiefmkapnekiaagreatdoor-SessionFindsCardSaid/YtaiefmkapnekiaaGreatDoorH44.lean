/-
  planner.Make and planner.Run on query 2: closed runs under names of their own.
-/
import Derived.Test.YtaiefmkapnekiaaGreatDoorH38
set_option linter.all false
namespace Go.Proofs.YtaiefmkapnekiaaGreatDoor
open Go.Clo
-- ordinal/planner.Make
def cM2aA : List Value := [.agg ⟨[.slice (some ⟨0, 0, none⟩) 1 1, .int .i64 1, .string ⟨⟨[]⟩⟩, .slice (some ⟨1, 0, none⟩) 1 1, .slice none 0 0]⟩, .slice (some ⟨2, 0, none⟩) 2 2, .agg ⟨[.bool false, .slice (some ⟨3, 0, none⟩) 1 1, .slice (some ⟨4, 0, none⟩) 1 1]⟩]
def cM2aP : Go.Clo.Lit := [(0, .cells [.string ⟨⟨[120]⟩⟩] 0),
  (1, .cells [.slice (some ⟨5, 0, none⟩) 1 1, .slice none 0 0] 0),
  (2, .cells [.string ⟨⟨[114]⟩⟩, .slice (some ⟨6, 0, none⟩) 2 2, .string ⟨⟨[115]⟩⟩, .slice (some ⟨7, 0, none⟩) 1 1] 0),
  (3, .cells [.int .u32 1] 1),
  (4, .cells [.int .u32 1, .int .u32 0] 0),
  (5, .cells [.bool false, .string ⟨⟨[114]⟩⟩, .slice (some ⟨8, 0, none⟩) 2 2] 0),
  (6, .cells [.int .i64 1, .int .i64 1] 1),
  (7, .cells [.int .i64 1] 1),
  (8, .cells [.string ⟨⟨[120]⟩⟩, .int .i64 0, .int .i64 0, .string ⟨⟨[]⟩⟩, .string ⟨⟨[121]⟩⟩, .int .i64 0, .int .i64 0, .string ⟨⟨[]⟩⟩] 4)]
def cM2aM : Nat := 9
def cM2aV : Value := .tuple ⟨[.agg ⟨[.slice (some ⟨489, 0, none⟩) 1 1, .int .i64 1, .string ⟨⟨[]⟩⟩, .slice (some ⟨512, 0, none⟩) 1 1, .slice none 0 0, .slice (some ⟨483, 0, none⟩) 1 1]⟩, .agg ⟨[.int .u32 0, .int .i64 0, .slice none 0 0, .slice none 0 0]⟩, .int .i64 0]⟩
def cM2aL : Go.Clo.Lit := [(255, .cells [.bool false] 1),
  (279, .cells [.string ⟨⟨[120]⟩⟩, .string ⟨⟨[121]⟩⟩] 1),
  (335, .cells [.int .i64 0, .int .i64 1] 1),
  (382, .cells [.int .i64 0, .int .i64 1] 1),
  (384, .cells [.string ⟨⟨[114]⟩⟩, .slice (some ⟨335, 0, none⟩) 2 2, .slice (some ⟨382, 0, none⟩) 2 2, .slice none 0 0, .slice none 0 0, .slice none 0 0] 6),
  (483, .cells [.slice (some ⟨279, 0, none⟩) 2 2, .int .i64 1, .slice (some ⟨255, 0, none⟩) 1 1, .slice (some ⟨384, 0, none⟩) 1 1, .int .i64 0, .slice (some ⟨1444, 0, none⟩) 1 1, .slice none 0 0, .slice (some ⟨2152, 0, none⟩) 1 1, .bool false, .slice (some ⟨1909, 0, none⟩) 1 1, .slice (some ⟨1911, 0, none⟩) 1 1] 0),
  (489, .cells [.string ⟨⟨[120]⟩⟩] 1),
  (491, .cells [] 0),
  (509, .cells [.string ⟨⟨[120]⟩⟩, .int .i64 0, .int .i64 0, .string ⟨⟨[]⟩⟩, .string ⟨⟨[121]⟩⟩, .int .i64 0, .int .i64 0, .string ⟨⟨[]⟩⟩] 4),
  (510, .cells [.bool false, .string ⟨⟨[114]⟩⟩, .slice (some ⟨509, 0, none⟩) 2 2] 3),
  (512, .cells [.slice (some ⟨510, 0, none⟩) 1 1, .slice (some ⟨491, 0, none⟩) 0 0] 2),
  (1444, .cells [.int .i64 1] 1),
  (1909, .cells [.int .u32 1] 1),
  (1911, .cells [.int .u32 1] 1),
  (2152, .cells [.int .i64 1] 1)]
def cM2aN : Nat := 2164
set_option maxRecDepth 1000000 in
theorem rcM2a : litRun Tryz.prog orc1 dok 83 cM2aA cM2aP cM2aM cM2aV (cM2aL ++ cM2aP) cM2aN = true := by kernel_rfl
noncomputable def cM2aO : O := embR cM2aA cM2aP cM2aM cM2aV cM2aL cM2aN
theorem cM2a_ok {args : List Value} {H : Heap} {nx : Nat} {v : Value} {H' : Heap} {nx' : Nat} (h : cM2aO args H nx = some (v, H', nx')) : CS Tryz.prog 83 args H nx v H' nx' :=
  embR_ok (litRun_cs mixed namesOK orc1_ok dok_ok rcM2a) (by kernel_rfl) h
-- ordinal/planner.Make
def cM2bA : List Value := [.agg ⟨[.slice (some ⟨0, 0, none⟩) 1 1, .int .i64 1, .string ⟨⟨[]⟩⟩, .slice (some ⟨1, 0, none⟩) 1 1, .slice none 0 0]⟩, .slice (some ⟨2, 0, none⟩) 2 2, .agg ⟨[.bool false, .slice (some ⟨3, 0, none⟩) 1 1, .slice (some ⟨4, 0, none⟩) 1 1]⟩]
def cM2bP : Go.Clo.Lit := [(0, .cells [.string ⟨⟨[120]⟩⟩] 1),
  (1, .cells [.slice (some ⟨5, 0, none⟩) 1 1, .slice (some ⟨6, 0, none⟩) 0 0] 2),
  (2, .cells [.string ⟨⟨[114]⟩⟩, .slice (some ⟨7, 0, none⟩) 2 2, .string ⟨⟨[115]⟩⟩, .slice (some ⟨8, 0, none⟩) 1 1] 0),
  (3, .cells [.int .u32 1] 1),
  (4, .cells [.int .u32 1, .int .u32 0] 0),
  (5, .cells [.bool false, .string ⟨⟨[114]⟩⟩, .slice (some ⟨9, 0, none⟩) 2 2] 3),
  (6, .cells [] 0),
  (7, .cells [.int .i64 1, .int .i64 1] 1),
  (8, .cells [.int .i64 1] 1),
  (9, .cells [.string ⟨⟨[120]⟩⟩, .int .i64 0, .int .i64 0, .string ⟨⟨[]⟩⟩, .string ⟨⟨[121]⟩⟩, .int .i64 0, .int .i64 0, .string ⟨⟨[]⟩⟩] 4)]
def cM2bM : Nat := 10
def cM2bV : Value := .tuple ⟨[.agg ⟨[.slice (some ⟨490, 0, none⟩) 1 1, .int .i64 1, .string ⟨⟨[]⟩⟩, .slice (some ⟨513, 0, none⟩) 1 1, .slice none 0 0, .slice (some ⟨484, 0, none⟩) 1 1]⟩, .agg ⟨[.int .u32 0, .int .i64 0, .slice none 0 0, .slice none 0 0]⟩, .int .i64 0]⟩
def cM2bL : Go.Clo.Lit := [(256, .cells [.bool false] 1),
  (280, .cells [.string ⟨⟨[120]⟩⟩, .string ⟨⟨[121]⟩⟩] 1),
  (336, .cells [.int .i64 0, .int .i64 1] 1),
  (383, .cells [.int .i64 0, .int .i64 1] 1),
  (385, .cells [.string ⟨⟨[114]⟩⟩, .slice (some ⟨336, 0, none⟩) 2 2, .slice (some ⟨383, 0, none⟩) 2 2, .slice none 0 0, .slice none 0 0, .slice none 0 0] 6),
  (484, .cells [.slice (some ⟨280, 0, none⟩) 2 2, .int .i64 1, .slice (some ⟨256, 0, none⟩) 1 1, .slice (some ⟨385, 0, none⟩) 1 1, .int .i64 0, .slice (some ⟨1445, 0, none⟩) 1 1, .slice none 0 0, .slice (some ⟨2153, 0, none⟩) 1 1, .bool false, .slice (some ⟨1910, 0, none⟩) 1 1, .slice (some ⟨1912, 0, none⟩) 1 1] 0),
  (490, .cells [.string ⟨⟨[120]⟩⟩] 1),
  (492, .cells [] 0),
  (510, .cells [.string ⟨⟨[120]⟩⟩, .int .i64 0, .int .i64 0, .string ⟨⟨[]⟩⟩, .string ⟨⟨[121]⟩⟩, .int .i64 0, .int .i64 0, .string ⟨⟨[]⟩⟩] 4),
  (511, .cells [.bool false, .string ⟨⟨[114]⟩⟩, .slice (some ⟨510, 0, none⟩) 2 2] 3),
  (513, .cells [.slice (some ⟨511, 0, none⟩) 1 1, .slice (some ⟨492, 0, none⟩) 0 0] 2),
  (1445, .cells [.int .i64 1] 1),
  (1910, .cells [.int .u32 1] 1),
  (1912, .cells [.int .u32 1] 1),
  (2153, .cells [.int .i64 1] 1)]
def cM2bN : Nat := 2165
set_option maxRecDepth 1000000 in
theorem rcM2b : litRun Tryz.prog orc1 dok 83 cM2bA cM2bP cM2bM cM2bV (cM2bL ++ cM2bP) cM2bN = true := by kernel_rfl
noncomputable def cM2bO : O := embR cM2bA cM2bP cM2bM cM2bV cM2bL cM2bN
theorem cM2b_ok {args : List Value} {H : Heap} {nx : Nat} {v : Value} {H' : Heap} {nx' : Nat} (h : cM2bO args H nx = some (v, H', nx')) : CS Tryz.prog 83 args H nx v H' nx' :=
  embR_ok (litRun_cs mixed namesOK orc1_ok dok_ok rcM2b) (by kernel_rfl) h
-- ordinal/planner.Run
def cR2aA : List Value := [.agg ⟨[.slice (some ⟨0, 0, none⟩) 1 1, .int .i64 1, .string ⟨⟨[]⟩⟩, .slice (some ⟨1, 0, none⟩) 1 1, .slice none 0 0, .slice (some ⟨2, 0, none⟩) 1 1]⟩, .agg ⟨[.map (some 3)]⟩]
def cR2aP : Go.Clo.Lit := [(0, .cells [.string ⟨⟨[120]⟩⟩] 1),
  (1, .cells [.slice (some ⟨4, 0, none⟩) 1 1, .slice (some ⟨5, 0, none⟩) 0 0] 2),
  (2, .cells [.slice (some ⟨6, 0, none⟩) 2 2, .int .i64 1, .slice (some ⟨7, 0, none⟩) 1 1, .slice (some ⟨8, 0, none⟩) 1 1, .int .i64 0, .slice (some ⟨9, 0, none⟩) 1 1, .slice none 0 0, .slice (some ⟨10, 0, none⟩) 1 1, .bool false, .slice (some ⟨11, 0, none⟩) 1 1, .slice (some ⟨12, 0, none⟩) 1 1] 0),
  (3, .map [⟨.string ⟨⟨[114]⟩⟩, .agg ⟨[.slice (some ⟨13, 0, none⟩) 2 2, .int .i64 2, .slice (some ⟨14, 0, none⟩) 3 3]⟩, 0⟩, ⟨.string ⟨⟨[115]⟩⟩, .agg ⟨[.slice (some ⟨15, 0, none⟩) 1 1, .int .i64 1, .slice (some ⟨16, 0, none⟩) 1 1]⟩, 1⟩] 2),
  (4, .cells [.bool false, .string ⟨⟨[114]⟩⟩, .slice (some ⟨17, 0, none⟩) 2 2] 3),
  (5, .cells [] 0),
  (6, .cells [.string ⟨⟨[120]⟩⟩, .string ⟨⟨[121]⟩⟩] 1),
  (7, .cells [.bool false] 1),
  (8, .cells [.string ⟨⟨[114]⟩⟩, .slice (some ⟨18, 0, none⟩) 2 2, .slice (some ⟨19, 0, none⟩) 2 2, .slice none 0 0, .slice none 0 0, .slice none 0 0] 6),
  (9, .cells [.int .i64 1] 1),
  (10, .cells [.int .i64 1] 1),
  (11, .cells [.int .u32 1] 1),
  (12, .cells [.int .u32 1] 1),
  (13, .cells [.int .i64 1, .int .i64 1] 1),
  (14, .cells [.slice (some ⟨20, 0, none⟩) 2 2, .slice (some ⟨21, 0, none⟩) 2 2, .slice (some ⟨22, 0, none⟩) 2 2] 0),
  (15, .cells [.int .i64 1] 1),
  (16, .cells [.slice (some ⟨23, 0, none⟩) 1 1] 0),
  (17, .cells [.string ⟨⟨[120]⟩⟩, .int .i64 0, .int .i64 0, .string ⟨⟨[]⟩⟩, .string ⟨⟨[121]⟩⟩, .int .i64 0, .int .i64 0, .string ⟨⟨[]⟩⟩] 4),
  (18, .cells [.int .i64 0, .int .i64 1] 1),
  (19, .cells [.int .i64 0, .int .i64 1] 1),
  (20, .cells [.int .i64 1, .int .i64 1, .string ⟨⟨[]⟩⟩, .int .i64 1, .int .i64 2, .string ⟨⟨[]⟩⟩] 3),
  (21, .cells [.int .i64 1, .int .i64 1, .string ⟨⟨[]⟩⟩, .int .i64 1, .int .i64 3, .string ⟨⟨[]⟩⟩] 3),
  (22, .cells [.int .i64 1, .int .i64 2, .string ⟨⟨[]⟩⟩, .int .i64 1, .int .i64 3, .string ⟨⟨[]⟩⟩] 3),
  (23, .cells [.int .i64 1, .int .i64 3, .string ⟨⟨[]⟩⟩] 3)]
def cR2aM : Nat := 24
def cR2aV : Value := .tuple ⟨[.iface 432 (.agg ⟨[.iface 423 (.agg ⟨[.int .i64 2, .int .i64 1, .slice (some ⟨4094, 0, none⟩) 1 1, .slice (some ⟨4096, 0, none⟩) 1 1, .slice (some ⟨4112, 0, none⟩) 1 1, .slice (some ⟨4013, 0, none⟩) 1 1, .slice (some ⟨4015, 0, none⟩) 1 1, .slice (some ⟨4019, 0, none⟩) 1 1, .slice (some ⟨4022, 0, none⟩) 1 1, .slice (some ⟨3973, 0, none⟩) 1 1, .int .i64 1, .int .i64 0]⟩), .slice (some ⟨4124, 0, none⟩) 1 1]⟩), .int .i64 20, .int .i64 0]⟩
def cR2aL : Go.Clo.Lit := [(86, .cells [.slice (some ⟨210, 0, none⟩) 2 2, .slice (some ⟨212, 0, none⟩) 2 2, .slice (some ⟨214, 0, none⟩) 2 2] 0),
  (210, .cells [.int .i64 1, .int .i64 1, .string ⟨⟨[]⟩⟩, .int .i64 1, .int .i64 2, .string ⟨⟨[]⟩⟩] 3),
  (212, .cells [.int .i64 1, .int .i64 1, .string ⟨⟨[]⟩⟩, .int .i64 1, .int .i64 3, .string ⟨⟨[]⟩⟩] 3),
  (214, .cells [.int .i64 1, .int .i64 2, .string ⟨⟨[]⟩⟩, .int .i64 1, .int .i64 3, .string ⟨⟨[]⟩⟩] 3),
  (3692, .cells [.int .u32 1] 1),
  (3793, .cells [.int .u32 1] 1),
  (3867, .cells [.int .i64 1, .int .i64 2, .string ⟨⟨[]⟩⟩, .slice (some ⟨3793, 0, none⟩) 1 1, .pointer none, .pointer none, .int .i64 1, .int .i64 1, .slice (some ⟨3871, 0, none⟩) 1 1] 0),
  (3871, .cells [.int .u32 1, .int .u32 0] 0),
  (3934, .cells [.int .i64 1, .int .i64 1, .string ⟨⟨[]⟩⟩, .slice (some ⟨3692, 0, none⟩) 1 1, .pointer none, .pointer (some ⟨3867, 0, none⟩), .int .i64 2, .int .i64 2, .slice (some ⟨3938, 0, none⟩) 1 1] 0),
  (3938, .cells [.int .u32 2, .int .u32 0] 0),
  (3973, .cells [.int .u32 2, .int .u32 0] 0),
  (4013, .cells [.bool false] 1),
  (4015, .cells [.int .i64 0, .int .u32 0, .int .i64 (-1)] 3),
  (4019, .cells [.slice (some ⟨4055, 0, none⟩) 1 1] 0),
  (4022, .cells [.map (some 4038)] 0),
  (4038, .map [⟨.string ⟨⟨[]⟩⟩, .int .i64 0, 0⟩] 1),
  (4054, .cells [] 0),
  (4055, .cells [.slice (some ⟨4054, 0, none⟩) 0 0, .bool false, .pointer (some ⟨3934, 0, none⟩)] 3),
  (4094, .cells [.bool false] 1),
  (4096, .cells [.int .i64 1] 1),
  (4111, .cells [.int .i64 0, .int .i64 1] 1),
  (4112, .cells [.slice (some ⟨4111, 0, none⟩) 2 2, .int .i64 2, .slice (some ⟨86, 0, none⟩) 3 3] 3),
  (4124, .cells [.int .i64 0] 1)]
def cR2aN : Nat := 4130
set_option maxRecDepth 1000000 in
theorem rcR2a : litRun Tryz.prog orc1 dok 85 cR2aA cR2aP cR2aM cR2aV (cR2aL ++ cR2aP) cR2aN = true := by kernel_rfl
noncomputable def cR2aO : O := embR cR2aA cR2aP cR2aM cR2aV cR2aL cR2aN
theorem cR2a_ok {args : List Value} {H : Heap} {nx : Nat} {v : Value} {H' : Heap} {nx' : Nat} (h : cR2aO args H nx = some (v, H', nx')) : CS Tryz.prog 85 args H nx v H' nx' :=
  embR_ok (litRun_cs mixed namesOK orc1_ok dok_ok rcR2a) (by kernel_rfl) h
noncomputable def mkF2 : O := orO cM2aO cM2bO
theorem mkF2_ok : OK1 83 mkF2 := orO_ok @cM2a_ok (@cM2b_ok)
noncomputable def rnF2 : O := cR2aO
theorem rnF2_ok : OK1 85 rnF2 := @cR2a_ok
end Go.Proofs.YtaiefmkapnekiaaGreatDoor
