/-
  planner.Make and planner.Run on query 4: closed runs under names of their own.
-/
import Derived.Test.YtaiefmkapnekiaaGreatDoorH38
set_option linter.all false
namespace Go.Proofs.YtaiefmkapnekiaaGreatDoor
open Go.Clo
-- ordinal/planner.Make
def cM4aA : List Value := [.agg ⟨[.slice none 0 0, .int .i64 0, .string ⟨⟨[]⟩⟩, .slice (some ⟨0, 0, none⟩) 1 1, .slice none 0 0]⟩, .slice (some ⟨1, 0, none⟩) 2 2, .agg ⟨[.bool false, .slice (some ⟨2, 0, none⟩) 1 1, .slice (some ⟨3, 0, none⟩) 1 1]⟩]
def cM4aP : Go.Clo.Lit := [(0, .cells [.slice (some ⟨4, 0, none⟩) 1 1, .slice none 0 0] 0),
  (1, .cells [.string ⟨⟨[114]⟩⟩, .slice (some ⟨5, 0, none⟩) 2 2, .string ⟨⟨[115]⟩⟩, .slice (some ⟨6, 0, none⟩) 1 1] 0),
  (2, .cells [.int .u32 1] 1),
  (3, .cells [.int .u32 1, .int .u32 0] 0),
  (4, .cells [.bool false, .string ⟨⟨[114]⟩⟩, .slice (some ⟨7, 0, none⟩) 2 2] 0),
  (5, .cells [.int .i64 1, .int .i64 1] 1),
  (6, .cells [.int .i64 1] 1),
  (7, .cells [.string ⟨⟨[120]⟩⟩, .int .i64 0, .int .i64 0, .string ⟨⟨[]⟩⟩, .string ⟨⟨[121]⟩⟩, .int .i64 0, .int .i64 0, .string ⟨⟨[]⟩⟩] 4)]
def cM4aM : Nat := 8
def cM4aV : Value := .tuple ⟨[.agg ⟨[.slice none 0 0, .int .i64 0, .string ⟨⟨[]⟩⟩, .slice (some ⟨453, 0, none⟩) 1 1, .slice none 0 0, .slice (some ⟨425, 0, none⟩) 1 1]⟩, .agg ⟨[.int .u32 0, .int .i64 0, .slice none 0 0, .slice none 0 0]⟩, .int .i64 0]⟩
def cM4aL : Go.Clo.Lit := [(221, .cells [.string ⟨⟨[120]⟩⟩, .string ⟨⟨[121]⟩⟩] 1),
  (277, .cells [.int .i64 0, .int .i64 1] 1),
  (324, .cells [.int .i64 0, .int .i64 1] 1),
  (326, .cells [.string ⟨⟨[114]⟩⟩, .slice (some ⟨277, 0, none⟩) 2 2, .slice (some ⟨324, 0, none⟩) 2 2, .slice none 0 0, .slice none 0 0, .slice none 0 0] 6),
  (425, .cells [.slice (some ⟨221, 0, none⟩) 2 2, .int .i64 0, .slice none 0 0, .slice (some ⟨326, 0, none⟩) 1 1, .int .i64 0, .slice (some ⟨1744, 0, none⟩) 2 2, .slice none 0 0, .slice (some ⟨2858, 0, none⟩) 2 2, .bool false, .slice (some ⟨2384, 0, none⟩) 1 1, .slice (some ⟨2386, 0, none⟩) 1 1] 0),
  (432, .cells [] 0),
  (450, .cells [.string ⟨⟨[120]⟩⟩, .int .i64 0, .int .i64 0, .string ⟨⟨[]⟩⟩, .string ⟨⟨[121]⟩⟩, .int .i64 0, .int .i64 0, .string ⟨⟨[]⟩⟩] 4),
  (451, .cells [.bool false, .string ⟨⟨[114]⟩⟩, .slice (some ⟨450, 0, none⟩) 2 2] 3),
  (453, .cells [.slice (some ⟨451, 0, none⟩) 1 1, .slice (some ⟨432, 0, none⟩) 0 0] 2),
  (1744, .cells [.int .i64 0, .int .i64 1] 1),
  (2384, .cells [.int .u32 1] 1),
  (2386, .cells [.int .u32 1] 1),
  (2858, .cells [.int .i64 0, .int .i64 1] 1)]
def cM4aN : Nat := 2870
set_option maxRecDepth 1000000 in
theorem rcM4a : litRun Tryz.prog orc1 dok 83 cM4aA cM4aP cM4aM cM4aV (cM4aL ++ cM4aP) cM4aN = true := by kernel_rfl
noncomputable def cM4aO : O := embR cM4aA cM4aP cM4aM cM4aV cM4aL cM4aN
theorem cM4a_ok {args : List Value} {H : Heap} {nx : Nat} {v : Value} {H' : Heap} {nx' : Nat} (h : cM4aO args H nx = some (v, H', nx')) : CS Tryz.prog 83 args H nx v H' nx' :=
  embR_ok (litRun_cs mixed namesOK orc1_ok dok_ok rcM4a) (by kernel_rfl) h
-- ordinal/planner.Make
def cM4bA : List Value := [.agg ⟨[.slice none 0 0, .int .i64 0, .string ⟨⟨[]⟩⟩, .slice (some ⟨0, 0, none⟩) 1 1, .slice none 0 0]⟩, .slice (some ⟨1, 0, none⟩) 2 2, .agg ⟨[.bool false, .slice (some ⟨2, 0, none⟩) 1 1, .slice (some ⟨3, 0, none⟩) 1 1]⟩]
def cM4bP : Go.Clo.Lit := [(0, .cells [.slice (some ⟨4, 0, none⟩) 1 1, .slice (some ⟨5, 0, none⟩) 0 0] 2),
  (1, .cells [.string ⟨⟨[114]⟩⟩, .slice (some ⟨6, 0, none⟩) 2 2, .string ⟨⟨[115]⟩⟩, .slice (some ⟨7, 0, none⟩) 1 1] 0),
  (2, .cells [.int .u32 1] 1),
  (3, .cells [.int .u32 1, .int .u32 0] 0),
  (4, .cells [.bool false, .string ⟨⟨[114]⟩⟩, .slice (some ⟨8, 0, none⟩) 2 2] 3),
  (5, .cells [] 0),
  (6, .cells [.int .i64 1, .int .i64 1] 1),
  (7, .cells [.int .i64 1] 1),
  (8, .cells [.string ⟨⟨[120]⟩⟩, .int .i64 0, .int .i64 0, .string ⟨⟨[]⟩⟩, .string ⟨⟨[121]⟩⟩, .int .i64 0, .int .i64 0, .string ⟨⟨[]⟩⟩] 4)]
def cM4bM : Nat := 9
def cM4bV : Value := .tuple ⟨[.agg ⟨[.slice none 0 0, .int .i64 0, .string ⟨⟨[]⟩⟩, .slice (some ⟨454, 0, none⟩) 1 1, .slice none 0 0, .slice (some ⟨426, 0, none⟩) 1 1]⟩, .agg ⟨[.int .u32 0, .int .i64 0, .slice none 0 0, .slice none 0 0]⟩, .int .i64 0]⟩
def cM4bL : Go.Clo.Lit := [(222, .cells [.string ⟨⟨[120]⟩⟩, .string ⟨⟨[121]⟩⟩] 1),
  (278, .cells [.int .i64 0, .int .i64 1] 1),
  (325, .cells [.int .i64 0, .int .i64 1] 1),
  (327, .cells [.string ⟨⟨[114]⟩⟩, .slice (some ⟨278, 0, none⟩) 2 2, .slice (some ⟨325, 0, none⟩) 2 2, .slice none 0 0, .slice none 0 0, .slice none 0 0] 6),
  (426, .cells [.slice (some ⟨222, 0, none⟩) 2 2, .int .i64 0, .slice none 0 0, .slice (some ⟨327, 0, none⟩) 1 1, .int .i64 0, .slice (some ⟨1745, 0, none⟩) 2 2, .slice none 0 0, .slice (some ⟨2859, 0, none⟩) 2 2, .bool false, .slice (some ⟨2385, 0, none⟩) 1 1, .slice (some ⟨2387, 0, none⟩) 1 1] 0),
  (433, .cells [] 0),
  (451, .cells [.string ⟨⟨[120]⟩⟩, .int .i64 0, .int .i64 0, .string ⟨⟨[]⟩⟩, .string ⟨⟨[121]⟩⟩, .int .i64 0, .int .i64 0, .string ⟨⟨[]⟩⟩] 4),
  (452, .cells [.bool false, .string ⟨⟨[114]⟩⟩, .slice (some ⟨451, 0, none⟩) 2 2] 3),
  (454, .cells [.slice (some ⟨452, 0, none⟩) 1 1, .slice (some ⟨433, 0, none⟩) 0 0] 2),
  (1745, .cells [.int .i64 0, .int .i64 1] 1),
  (2385, .cells [.int .u32 1] 1),
  (2387, .cells [.int .u32 1] 1),
  (2859, .cells [.int .i64 0, .int .i64 1] 1)]
def cM4bN : Nat := 2871
set_option maxRecDepth 1000000 in
theorem rcM4b : litRun Tryz.prog orc1 dok 83 cM4bA cM4bP cM4bM cM4bV (cM4bL ++ cM4bP) cM4bN = true := by kernel_rfl
noncomputable def cM4bO : O := embR cM4bA cM4bP cM4bM cM4bV cM4bL cM4bN
theorem cM4b_ok {args : List Value} {H : Heap} {nx : Nat} {v : Value} {H' : Heap} {nx' : Nat} (h : cM4bO args H nx = some (v, H', nx')) : CS Tryz.prog 83 args H nx v H' nx' :=
  embR_ok (litRun_cs mixed namesOK orc1_ok dok_ok rcM4b) (by kernel_rfl) h
-- ordinal/planner.Run
def cR4aA : List Value := [.agg ⟨[.slice none 0 0, .int .i64 0, .string ⟨⟨[]⟩⟩, .slice (some ⟨0, 0, none⟩) 1 1, .slice none 0 0, .slice (some ⟨1, 0, none⟩) 1 1]⟩, .agg ⟨[.map (some 2)]⟩]
def cR4aP : Go.Clo.Lit := [(0, .cells [.slice (some ⟨3, 0, none⟩) 1 1, .slice (some ⟨4, 0, none⟩) 0 0] 2),
  (1, .cells [.slice (some ⟨5, 0, none⟩) 2 2, .int .i64 0, .slice none 0 0, .slice (some ⟨6, 0, none⟩) 1 1, .int .i64 0, .slice (some ⟨7, 0, none⟩) 2 2, .slice none 0 0, .slice (some ⟨8, 0, none⟩) 2 2, .bool false, .slice (some ⟨9, 0, none⟩) 1 1, .slice (some ⟨10, 0, none⟩) 1 1] 0),
  (2, .map [⟨.string ⟨⟨[114]⟩⟩, .agg ⟨[.slice (some ⟨11, 0, none⟩) 2 2, .int .i64 2, .slice (some ⟨12, 0, none⟩) 3 3]⟩, 0⟩, ⟨.string ⟨⟨[115]⟩⟩, .agg ⟨[.slice (some ⟨13, 0, none⟩) 1 1, .int .i64 1, .slice (some ⟨14, 0, none⟩) 1 1]⟩, 1⟩] 2),
  (3, .cells [.bool false, .string ⟨⟨[114]⟩⟩, .slice (some ⟨15, 0, none⟩) 2 2] 3),
  (4, .cells [] 0),
  (5, .cells [.string ⟨⟨[120]⟩⟩, .string ⟨⟨[121]⟩⟩] 1),
  (6, .cells [.string ⟨⟨[114]⟩⟩, .slice (some ⟨16, 0, none⟩) 2 2, .slice (some ⟨17, 0, none⟩) 2 2, .slice none 0 0, .slice none 0 0, .slice none 0 0] 6),
  (7, .cells [.int .i64 0, .int .i64 1] 1),
  (8, .cells [.int .i64 0, .int .i64 1] 1),
  (9, .cells [.int .u32 1] 1),
  (10, .cells [.int .u32 1] 1),
  (11, .cells [.int .i64 1, .int .i64 1] 1),
  (12, .cells [.slice (some ⟨18, 0, none⟩) 2 2, .slice (some ⟨19, 0, none⟩) 2 2, .slice (some ⟨20, 0, none⟩) 2 2] 0),
  (13, .cells [.int .i64 1] 1),
  (14, .cells [.slice (some ⟨21, 0, none⟩) 1 1] 0),
  (15, .cells [.string ⟨⟨[120]⟩⟩, .int .i64 0, .int .i64 0, .string ⟨⟨[]⟩⟩, .string ⟨⟨[121]⟩⟩, .int .i64 0, .int .i64 0, .string ⟨⟨[]⟩⟩] 4),
  (16, .cells [.int .i64 0, .int .i64 1] 1),
  (17, .cells [.int .i64 0, .int .i64 1] 1),
  (18, .cells [.int .i64 1, .int .i64 1, .string ⟨⟨[]⟩⟩, .int .i64 1, .int .i64 2, .string ⟨⟨[]⟩⟩] 3),
  (19, .cells [.int .i64 1, .int .i64 1, .string ⟨⟨[]⟩⟩, .int .i64 1, .int .i64 3, .string ⟨⟨[]⟩⟩] 3),
  (20, .cells [.int .i64 1, .int .i64 2, .string ⟨⟨[]⟩⟩, .int .i64 1, .int .i64 3, .string ⟨⟨[]⟩⟩] 3),
  (21, .cells [.int .i64 1, .int .i64 3, .string ⟨⟨[]⟩⟩] 3)]
def cR4aM : Nat := 22
def cR4aV : Value := .tuple ⟨[.iface 432 (.agg ⟨[.iface 429 (.agg ⟨[.slice none 0 0, .slice (some ⟨3695, 0, none⟩) 0 0, .slice (some ⟨3699, 0, none⟩) 0 0, .slice (some ⟨3702, 0, none⟩) 0 0, .slice (some ⟨3677, 0, none⟩) 1 1]⟩), .slice (some ⟨3714, 0, none⟩) 0 0]⟩), .int .i64 20, .int .i64 0]⟩
def cR4aL : Go.Clo.Lit := [(3677, .cells [.int .u32 1, .int .u32 0] 0),
  (3695, .cells [] 0),
  (3699, .cells [] 0),
  (3702, .cells [] 0),
  (3714, .cells [] 0)]
def cR4aN : Nat := 3720
set_option maxRecDepth 1000000 in
theorem rcR4a : litRun Tryz.prog orc1 dok 85 cR4aA cR4aP cR4aM cR4aV (cR4aL ++ cR4aP) cR4aN = true := by kernel_rfl
noncomputable def cR4aO : O := embR cR4aA cR4aP cR4aM cR4aV cR4aL cR4aN
theorem cR4a_ok {args : List Value} {H : Heap} {nx : Nat} {v : Value} {H' : Heap} {nx' : Nat} (h : cR4aO args H nx = some (v, H', nx')) : CS Tryz.prog 85 args H nx v H' nx' :=
  embR_ok (litRun_cs mixed namesOK orc1_ok dok_ok rcR4a) (by kernel_rfl) h
noncomputable def mkF4 : O := orO cM4aO cM4bO
theorem mkF4_ok : OK1 83 mkF4 := orO_ok @cM4a_ok (@cM4b_ok)
noncomputable def rnF4 : O := cR4aO
theorem rnF4_ok : OK1 85 rnF4 := @cR4a_ok
end Go.Proofs.YtaiefmkapnekiaaGreatDoor
