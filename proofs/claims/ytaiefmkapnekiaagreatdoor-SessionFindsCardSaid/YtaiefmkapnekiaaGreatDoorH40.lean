/-
  planner.Make and planner.Run on query 0: closed runs under names of their own.
-/
import Derived.Test.YtaiefmkapnekiaaGreatDoorH38
set_option linter.all false
namespace Go.Proofs.YtaiefmkapnekiaaGreatDoor
open Go.Clo
-- ordinal/planner.Make
def cM0aA : List Value := [.agg ⟨[.slice (some ⟨0, 0, none⟩) 1 1, .int .i64 0, .string ⟨⟨[]⟩⟩, .slice (some ⟨1, 0, none⟩) 1 1, .slice none 0 0]⟩, .slice (some ⟨2, 0, none⟩) 2 2, .agg ⟨[.bool false, .slice (some ⟨3, 0, none⟩) 1 1, .slice (some ⟨4, 0, none⟩) 1 1]⟩]
def cM0aP : Go.Clo.Lit := [(0, .cells [.string ⟨⟨[120]⟩⟩] 0),
  (1, .cells [.slice (some ⟨5, 0, none⟩) 1 1, .slice none 0 0] 0),
  (2, .cells [.string ⟨⟨[114]⟩⟩, .slice (some ⟨6, 0, none⟩) 2 2, .string ⟨⟨[115]⟩⟩, .slice (some ⟨7, 0, none⟩) 1 1] 0),
  (3, .cells [.int .u32 1] 1),
  (4, .cells [.int .u32 1, .int .u32 0] 0),
  (5, .cells [.bool false, .string ⟨⟨[114]⟩⟩, .slice (some ⟨8, 0, none⟩) 2 2] 0),
  (6, .cells [.int .i64 1, .int .i64 1] 1),
  (7, .cells [.int .i64 1] 1),
  (8, .cells [.string ⟨⟨[120]⟩⟩, .int .i64 0, .int .i64 0, .string ⟨⟨[]⟩⟩, .string ⟨⟨[121]⟩⟩, .int .i64 0, .int .i64 0, .string ⟨⟨[]⟩⟩] 4)]
def cM0aM : Nat := 9
def cM0aV : Value := .tuple ⟨[.agg ⟨[.slice (some ⟨489, 0, none⟩) 1 1, .int .i64 0, .string ⟨⟨[]⟩⟩, .slice (some ⟨512, 0, none⟩) 1 1, .slice none 0 0, .slice (some ⟨483, 0, none⟩) 1 1]⟩, .agg ⟨[.int .u32 0, .int .i64 0, .slice none 0 0, .slice none 0 0]⟩, .int .i64 0]⟩
def cM0aL : Go.Clo.Lit := [(255, .cells [.bool false] 1),
  (279, .cells [.string ⟨⟨[120]⟩⟩, .string ⟨⟨[121]⟩⟩] 1),
  (335, .cells [.int .i64 0, .int .i64 1] 1),
  (382, .cells [.int .i64 0, .int .i64 1] 1),
  (384, .cells [.string ⟨⟨[114]⟩⟩, .slice (some ⟨335, 0, none⟩) 2 2, .slice (some ⟨382, 0, none⟩) 2 2, .slice none 0 0, .slice none 0 0, .slice none 0 0] 6),
  (483, .cells [.slice (some ⟨279, 0, none⟩) 2 2, .int .i64 1, .slice (some ⟨255, 0, none⟩) 1 1, .slice (some ⟨384, 0, none⟩) 1 1, .int .i64 0, .slice (some ⟨1444, 0, none⟩) 1 1, .slice none 0 0, .slice (some ⟨2152, 0, none⟩) 1 1, .bool false, .slice (some ⟨1909, 0, none⟩) 1 1, .slice (some ⟨1911, 0, none⟩) 1 1] 0),
  (489, .cells [.string ⟨⟨[120]⟩⟩] 1),
  (491, .cells [] 0),
  (509, .cells [.string ⟨⟨[120]⟩⟩, .int .i64 0, .int .i64 0, .string ⟨⟨[]⟩⟩, .string ⟨⟨[121]⟩⟩, .int .i64 0, .int .i64 0, .string ⟨⟨[]⟩⟩] 4),
  (510, .cells [.bool false, .string ⟨⟨[114]⟩⟩, .slice (some ⟨509, 0, none⟩) 2 2] 3),
  (512, .cells [.slice (some ⟨510, 0, none⟩) 1 1, .slice (some ⟨491, 0, none⟩) 0 0] 2),
  (1444, .cells [.int .i64 1] 1),
  (1909, .cells [.int .u32 1] 1),
  (1911, .cells [.int .u32 1] 1),
  (2152, .cells [.int .i64 1] 1)]
def cM0aN : Nat := 2164
set_option maxRecDepth 1000000 in
theorem rcM0a : litRun Tryz.prog orc1 dok 83 cM0aA cM0aP cM0aM cM0aV (cM0aL ++ cM0aP) cM0aN = true := by kernel_rfl
noncomputable def cM0aO : O := embR cM0aA cM0aP cM0aM cM0aV cM0aL cM0aN
theorem cM0a_ok {args : List Value} {H : Heap} {nx : Nat} {v : Value} {H' : Heap} {nx' : Nat} (h : cM0aO args H nx = some (v, H', nx')) : CS Tryz.prog 83 args H nx v H' nx' :=
  embR_ok (litRun_cs mixed namesOK orc1_ok dok_ok rcM0a) (by kernel_rfl) h
-- ordinal/planner.Make
def cM0bA : List Value := [.agg ⟨[.slice (some ⟨0, 0, none⟩) 1 1, .int .i64 0, .string ⟨⟨[]⟩⟩, .slice (some ⟨1, 0, none⟩) 1 1, .slice none 0 0]⟩, .slice (some ⟨2, 0, none⟩) 2 2, .agg ⟨[.bool false, .slice (some ⟨3, 0, none⟩) 1 1, .slice (some ⟨4, 0, none⟩) 1 1]⟩]
def cM0bP : Go.Clo.Lit := [(0, .cells [.string ⟨⟨[120]⟩⟩] 1),
  (1, .cells [.slice (some ⟨5, 0, none⟩) 1 1, .slice (some ⟨6, 0, none⟩) 0 0] 2),
  (2, .cells [.string ⟨⟨[114]⟩⟩, .slice (some ⟨7, 0, none⟩) 2 2, .string ⟨⟨[115]⟩⟩, .slice (some ⟨8, 0, none⟩) 1 1] 0),
  (3, .cells [.int .u32 1] 1),
  (4, .cells [.int .u32 1, .int .u32 0] 0),
  (5, .cells [.bool false, .string ⟨⟨[114]⟩⟩, .slice (some ⟨9, 0, none⟩) 2 2] 3),
  (6, .cells [] 0),
  (7, .cells [.int .i64 1, .int .i64 1] 1),
  (8, .cells [.int .i64 1] 1),
  (9, .cells [.string ⟨⟨[120]⟩⟩, .int .i64 0, .int .i64 0, .string ⟨⟨[]⟩⟩, .string ⟨⟨[121]⟩⟩, .int .i64 0, .int .i64 0, .string ⟨⟨[]⟩⟩] 4)]
def cM0bM : Nat := 10
def cM0bV : Value := .tuple ⟨[.agg ⟨[.slice (some ⟨490, 0, none⟩) 1 1, .int .i64 0, .string ⟨⟨[]⟩⟩, .slice (some ⟨513, 0, none⟩) 1 1, .slice none 0 0, .slice (some ⟨484, 0, none⟩) 1 1]⟩, .agg ⟨[.int .u32 0, .int .i64 0, .slice none 0 0, .slice none 0 0]⟩, .int .i64 0]⟩
def cM0bL : Go.Clo.Lit := [(256, .cells [.bool false] 1),
  (280, .cells [.string ⟨⟨[120]⟩⟩, .string ⟨⟨[121]⟩⟩] 1),
  (336, .cells [.int .i64 0, .int .i64 1] 1),
  (383, .cells [.int .i64 0, .int .i64 1] 1),
  (385, .cells [.string ⟨⟨[114]⟩⟩, .slice (some ⟨336, 0, none⟩) 2 2, .slice (some ⟨383, 0, none⟩) 2 2, .slice none 0 0, .slice none 0 0, .slice none 0 0] 6),
  (484, .cells [.slice (some ⟨280, 0, none⟩) 2 2, .int .i64 1, .slice (some ⟨256, 0, none⟩) 1 1, .slice (some ⟨385, 0, none⟩) 1 1, .int .i64 0, .slice (some ⟨1445, 0, none⟩) 1 1, .slice none 0 0, .slice (some ⟨2153, 0, none⟩) 1 1, .bool false, .slice (some ⟨1910, 0, none⟩) 1 1, .slice (some ⟨1912, 0, none⟩) 1 1] 0),
  (490, .cells [.string ⟨⟨[120]⟩⟩] 1),
  (492, .cells [] 0),
  (510, .cells [.string ⟨⟨[120]⟩⟩, .int .i64 0, .int .i64 0, .string ⟨⟨[]⟩⟩, .string ⟨⟨[121]⟩⟩, .int .i64 0, .int .i64 0, .string ⟨⟨[]⟩⟩] 4),
  (511, .cells [.bool false, .string ⟨⟨[114]⟩⟩, .slice (some ⟨510, 0, none⟩) 2 2] 3),
  (513, .cells [.slice (some ⟨511, 0, none⟩) 1 1, .slice (some ⟨492, 0, none⟩) 0 0] 2),
  (1445, .cells [.int .i64 1] 1),
  (1910, .cells [.int .u32 1] 1),
  (1912, .cells [.int .u32 1] 1),
  (2153, .cells [.int .i64 1] 1)]
def cM0bN : Nat := 2165
set_option maxRecDepth 1000000 in
theorem rcM0b : litRun Tryz.prog orc1 dok 83 cM0bA cM0bP cM0bM cM0bV (cM0bL ++ cM0bP) cM0bN = true := by kernel_rfl
noncomputable def cM0bO : O := embR cM0bA cM0bP cM0bM cM0bV cM0bL cM0bN
theorem cM0b_ok {args : List Value} {H : Heap} {nx : Nat} {v : Value} {H' : Heap} {nx' : Nat} (h : cM0bO args H nx = some (v, H', nx')) : CS Tryz.prog 83 args H nx v H' nx' :=
  embR_ok (litRun_cs mixed namesOK orc1_ok dok_ok rcM0b) (by kernel_rfl) h
-- ordinal/planner.Run
def cR0aA : List Value := [.agg ⟨[.slice (some ⟨0, 0, none⟩) 1 1, .int .i64 0, .string ⟨⟨[]⟩⟩, .slice (some ⟨1, 0, none⟩) 1 1, .slice none 0 0, .slice (some ⟨2, 0, none⟩) 1 1]⟩, .agg ⟨[.map (some 3)]⟩]
def cR0aP : Go.Clo.Lit := [(0, .cells [.string ⟨⟨[120]⟩⟩] 1),
  (1, .cells [.slice (some ⟨4, 0, none⟩) 1 1, .slice (some ⟨5, 0, none⟩) 0 0] 2),
  (2, .cells [.slice (some ⟨6, 0, none⟩) 2 2, .int .i64 1, .slice (some ⟨7, 0, none⟩) 1 1, .slice (some ⟨8, 0, none⟩) 1 1, .int .i64 0, .slice (some ⟨9, 0, none⟩) 1 1, .slice none 0 0, .slice (some ⟨10, 0, none⟩) 1 1, .bool false, .slice (some ⟨11, 0, none⟩) 1 1, .slice (some ⟨12, 0, none⟩) 1 1] 0),
  (3, .map [⟨.string ⟨⟨[114]⟩⟩, .agg ⟨[.slice (some ⟨13, 0, none⟩) 2 2, .int .i64 2, .slice (some ⟨14, 0, none⟩) 3 3]⟩, 0⟩, ⟨.string ⟨⟨[115]⟩⟩, .agg ⟨[.slice (some ⟨15, 0, none⟩) 1 1, .int .i64 1, .slice (some ⟨16, 0, none⟩) 1 1]⟩, 1⟩] 2),
  (4, .cells [.bool false, .string ⟨⟨[114]⟩⟩, .slice (some ⟨17, 0, none⟩) 2 2] 3),
  (5, .cells [] 0),
  (6, .cells [.string ⟨⟨[120]⟩⟩, .string ⟨⟨[121]⟩⟩] 1),
  (7, .cells [.bool false] 1),
  (8, .cells [.string ⟨⟨[114]⟩⟩, .slice (some ⟨18, 0, none⟩) 2 2, .slice (some ⟨19, 0, none⟩) 2 2, .slice none 0 0, .slice none 0 0, .slice none 0 0] 6),
  (9, .cells [.int .i64 1] 1),
  (10, .cells [.int .i64 1] 1),
  (11, .cells [.int .u32 1] 1),
  (12, .cells [.int .u32 1] 1),
  (13, .cells [.int .i64 1, .int .i64 1] 1),
  (14, .cells [.slice (some ⟨20, 0, none⟩) 2 2, .slice (some ⟨21, 0, none⟩) 2 2, .slice (some ⟨22, 0, none⟩) 2 2] 0),
  (15, .cells [.int .i64 1] 1),
  (16, .cells [.slice (some ⟨23, 0, none⟩) 1 1] 0),
  (17, .cells [.string ⟨⟨[120]⟩⟩, .int .i64 0, .int .i64 0, .string ⟨⟨[]⟩⟩, .string ⟨⟨[121]⟩⟩, .int .i64 0, .int .i64 0, .string ⟨⟨[]⟩⟩] 4),
  (18, .cells [.int .i64 0, .int .i64 1] 1),
  (19, .cells [.int .i64 0, .int .i64 1] 1),
  (20, .cells [.int .i64 1, .int .i64 1, .string ⟨⟨[]⟩⟩, .int .i64 1, .int .i64 2, .string ⟨⟨[]⟩⟩] 3),
  (21, .cells [.int .i64 1, .int .i64 1, .string ⟨⟨[]⟩⟩, .int .i64 1, .int .i64 3, .string ⟨⟨[]⟩⟩] 3),
  (22, .cells [.int .i64 1, .int .i64 2, .string ⟨⟨[]⟩⟩, .int .i64 1, .int .i64 3, .string ⟨⟨[]⟩⟩] 3),
  (23, .cells [.int .i64 1, .int .i64 3, .string ⟨⟨[]⟩⟩] 3)]
def cR0aM : Nat := 24
def cR0aV : Value := .tuple ⟨[.iface 432 (.agg ⟨[.iface 429 (.agg ⟨[.slice (some ⟨3960, 0, none⟩) 1 1, .slice (some ⟨3962, 0, none⟩) 1 1, .slice (some ⟨3966, 0, none⟩) 1 1, .slice (some ⟨3969, 0, none⟩) 1 1, .slice (some ⟨3920, 0, none⟩) 1 1]⟩), .slice (some ⟨4026, 0, none⟩) 1 1]⟩), .int .i64 20, .int .i64 0]⟩
def cR0aL : Go.Clo.Lit := [(3639, .cells [.int .u32 1] 1),
  (3740, .cells [.int .u32 1] 1),
  (3814, .cells [.int .i64 1, .int .i64 2, .string ⟨⟨[]⟩⟩, .slice (some ⟨3740, 0, none⟩) 1 1, .pointer none, .pointer none, .int .i64 1, .int .i64 1, .slice (some ⟨3818, 0, none⟩) 1 1] 0),
  (3818, .cells [.int .u32 1, .int .u32 0] 0),
  (3881, .cells [.int .i64 1, .int .i64 1, .string ⟨⟨[]⟩⟩, .slice (some ⟨3639, 0, none⟩) 1 1, .pointer none, .pointer (some ⟨3814, 0, none⟩), .int .i64 2, .int .i64 2, .slice (some ⟨3885, 0, none⟩) 1 1] 0),
  (3885, .cells [.int .u32 2, .int .u32 0] 0),
  (3920, .cells [.int .u32 2, .int .u32 0] 0),
  (3960, .cells [.bool false] 1),
  (3962, .cells [.int .i64 0, .int .u32 0, .int .i64 (-1)] 3),
  (3966, .cells [.slice (some ⟨4002, 0, none⟩) 1 1] 0),
  (3969, .cells [.map (some 3985)] 0),
  (3985, .map [⟨.string ⟨⟨[]⟩⟩, .int .i64 0, 0⟩] 1),
  (4001, .cells [] 0),
  (4002, .cells [.slice (some ⟨4001, 0, none⟩) 0 0, .bool false, .pointer (some ⟨3881, 0, none⟩)] 3),
  (4026, .cells [.int .i64 0] 1)]
def cR0aN : Nat := 4032
set_option maxRecDepth 1000000 in
theorem rcR0a : litRun Tryz.prog orc1 dok 85 cR0aA cR0aP cR0aM cR0aV (cR0aL ++ cR0aP) cR0aN = true := by kernel_rfl
noncomputable def cR0aO : O := embR cR0aA cR0aP cR0aM cR0aV cR0aL cR0aN
theorem cR0a_ok {args : List Value} {H : Heap} {nx : Nat} {v : Value} {H' : Heap} {nx' : Nat} (h : cR0aO args H nx = some (v, H', nx')) : CS Tryz.prog 85 args H nx v H' nx' :=
  embR_ok (litRun_cs mixed namesOK orc1_ok dok_ok rcR0a) (by kernel_rfl) h
noncomputable def mkF0 : O := orO cM0aO cM0bO
theorem mkF0_ok : OK1 83 mkF0 := orO_ok @cM0a_ok (@cM0b_ok)
noncomputable def rnF0 : O := cR0aO
theorem rnF0_ok : OK1 85 rnF0 := @cR0a_ok
end Go.Proofs.YtaiefmkapnekiaaGreatDoor
