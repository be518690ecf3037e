/-
  A call of Open in the law: one closed run.
-/
import Derived.Test.YtiigcedfkkaaiaaGreatDoorZ33
import Derived.Test.YtiigcedfkkaaiaaGreatDoorZ22
set_option linter.all false
namespace Go.Proofs.YtiigcedfkkaaiaaGreatDoor
open Go.Clo
def co1A : List Value := [.agg ⟨[.bool true, .int .i64 0, .pointer none, .pointer none, .pointer none, .int .i64 0, .int .i64 4624, .pointer (some ⟨14372, 0, none⟩), .pointer (some ⟨14372, 0, none⟩), .pointer none, .int .i64 0, .int .i64 4112, .int .i64 512, .int .u64 1, .int .u64 1, .int .u64 2, .int .i64 4115, .int .i64 0, .int .i64 1, .map (some 7), .map (some 13518), .slice (some ⟨14408, 0, none⟩) 1 1, .map (some 14884), .int .i64 1, .map (some 14914)]⟩, .int .i64 1, .agg ⟨[.slice (some ⟨14974, 0, none⟩) 1 1, .int .i64 0, .string ⟨⟨[]⟩⟩, .slice (some ⟨14976, 0, none⟩) 1 1, .slice none 0 0]⟩, .int .i64 1]
def co1P : Go.Clo.Lit := [(7, .map [⟨.string ⟨⟨[114]⟩⟩, .agg ⟨[.slice (some ⟨22, 0, none⟩) 2 2, .int .i64 2, .slice none 0 0]⟩, 0⟩, ⟨.string ⟨⟨[115]⟩⟩, .agg ⟨[.slice (some ⟨37, 0, none⟩) 1 1, .int .i64 1, .slice none 0 0]⟩, 1⟩] 2),
  (22, .cells [.int .i64 1, .int .i64 1] 1),
  (37, .cells [.int .i64 1] 1),
  (13518, .map [⟨.string ⟨⟨[114]⟩⟩, .agg ⟨[.slice (some ⟨22, 0, none⟩) 2 2, .int .i64 2, .slice (some ⟨13873, 0, none⟩) 3 3]⟩, 0⟩, ⟨.string ⟨⟨[115]⟩⟩, .agg ⟨[.slice (some ⟨37, 0, none⟩) 1 1, .int .i64 1, .slice (some ⟨13964, 0, none⟩) 1 1]⟩, 1⟩] 2),
  (13611, .cells [.int .i64 1, .int .i64 1, .string ⟨⟨[]⟩⟩, .int .i64 1, .int .i64 2, .string ⟨⟨[]⟩⟩] 3),
  (13749, .cells [.int .i64 1, .int .i64 1, .string ⟨⟨[]⟩⟩, .int .i64 1, .int .i64 3, .string ⟨⟨[]⟩⟩] 3),
  (13873, .cells [.slice (some ⟨13611, 0, none⟩) 2 2, .slice (some ⟨13749, 0, none⟩) 2 2, .slice (some ⟨13875, 0, none⟩) 2 2] 0),
  (13875, .cells [.int .i64 1, .int .i64 2, .string ⟨⟨[]⟩⟩, .int .i64 1, .int .i64 3, .string ⟨⟨[]⟩⟩] 3),
  (13964, .cells [.slice (some ⟨13966, 0, none⟩) 1 1] 0),
  (13966, .cells [.int .i64 1, .int .i64 3, .string ⟨⟨[]⟩⟩] 3),
  (14408, .cells [.slice (some ⟨14281, 0, none⟩) 80 80] 1),
  (14418, .map [⟨.string ⟨⟨[114]⟩⟩, .agg ⟨[.slice (some ⟨22, 0, none⟩) 2 2, .int .i64 2, .slice (some ⟨14773, 0, none⟩) 3 3]⟩, 0⟩, ⟨.string ⟨⟨[115]⟩⟩, .agg ⟨[.slice (some ⟨37, 0, none⟩) 1 1, .int .i64 1, .slice (some ⟨14864, 0, none⟩) 1 1]⟩, 1⟩] 2),
  (14511, .cells [.int .i64 1, .int .i64 1, .string ⟨⟨[]⟩⟩, .int .i64 1, .int .i64 2, .string ⟨⟨[]⟩⟩] 3),
  (14649, .cells [.int .i64 1, .int .i64 1, .string ⟨⟨[]⟩⟩, .int .i64 1, .int .i64 3, .string ⟨⟨[]⟩⟩] 3),
  (14773, .cells [.slice (some ⟨14511, 0, none⟩) 2 2, .slice (some ⟨14649, 0, none⟩) 2 2, .slice (some ⟨14775, 0, none⟩) 2 2] 0),
  (14775, .cells [.int .i64 1, .int .i64 2, .string ⟨⟨[]⟩⟩, .int .i64 1, .int .i64 3, .string ⟨⟨[]⟩⟩] 3),
  (14864, .cells [.slice (some ⟨14866, 0, none⟩) 1 1] 0),
  (14866, .cells [.int .i64 1, .int .i64 3, .string ⟨⟨[]⟩⟩] 3),
  (14884, .map [⟨.int .i64 0, .agg ⟨[.map (some 7), .int .i64 0]⟩, 0⟩, ⟨.int .i64 1, .agg ⟨[.map (some 14418), .int .i64 0]⟩, 1⟩] 2),
  (14911, .map [] 0),
  (14914, .map [⟨.int .i64 1, .map (some 14911), 0⟩] 1),
  (14971, .cells [.string ⟨⟨[120]⟩⟩, .int .i64 0, .int .i64 0, .string ⟨⟨[]⟩⟩, .string ⟨⟨[121]⟩⟩, .int .i64 0, .int .i64 0, .string ⟨⟨[]⟩⟩] 4),
  (14972, .cells [.bool false, .string ⟨⟨[114]⟩⟩, .slice (some ⟨14971, 0, none⟩) 2 2] 0),
  (14974, .cells [.string ⟨⟨[120]⟩⟩] 0),
  (14976, .cells [.slice (some ⟨14972, 0, none⟩) 1 1, .slice none 0 0] 0)]
def co1M : Nat := 15127
def co1V : Value := .tuple ⟨[.agg ⟨[.bool true, .int .i64 0, .pointer none, .pointer none, .pointer none, .int .i64 0, .int .i64 4624, .pointer (some ⟨14372, 0, none⟩), .pointer (some ⟨14372, 0, none⟩), .pointer none, .int .i64 0, .int .i64 4112, .int .i64 512, .int .u64 1, .int .u64 1, .int .u64 2, .int .i64 4115, .int .i64 0, .int .i64 1, .map (some 7), .map (some 13518), .slice (some ⟨14408, 0, none⟩) 1 1, .map (some 14884), .int .i64 1, .map (some 21418)]⟩, .int .i64 1, .int .i64 0]⟩
def co1L : Go.Clo.Lit := [(15726, .cells [.string ⟨⟨[120]⟩⟩] 1),
  (15728, .cells [] 0),
  (15746, .cells [.string ⟨⟨[120]⟩⟩, .int .i64 0, .int .i64 0, .string ⟨⟨[]⟩⟩, .string ⟨⟨[121]⟩⟩, .int .i64 0, .int .i64 0, .string ⟨⟨[]⟩⟩] 4),
  (15747, .cells [.bool false, .string ⟨⟨[114]⟩⟩, .slice (some ⟨15746, 0, none⟩) 2 2] 3),
  (15749, .cells [.slice (some ⟨15747, 0, none⟩) 1 1, .slice (some ⟨15728, 0, none⟩) 0 0] 2),
  (21414, .map [⟨.int .i64 1, .agg ⟨[.slice (some ⟨15726, 0, none⟩) 1 1, .int .i64 0, .string ⟨⟨[]⟩⟩, .slice (some ⟨15749, 0, none⟩) 1 1, .slice none 0 0, .int .i64 1, .slice none 0 0, .bool false]⟩, 0⟩] 1),
  (21418, .map [⟨.int .i64 1, .map (some 21414), 0⟩] 1)]
def co1N : Nat := 21420
set_option maxRecDepth 1000000 in
theorem ro1 : litRun Tryz.prog orc1 dok 7 co1A co1P co1M co1V (co1L ++ co1P) co1N = true := by kernel_rfl
theorem open1_ok {args : List Value} {H : Heap} {nx : Nat} {v : Value} {H' : Heap} {nx' : Nat} (h : embO co1A co1P co1M co1V co1L co1N args H nx = some (v, H', nx')) : CS Tryz.prog 7 args H nx v H' nx' :=
  embO_ok (litRun_cs mixed namesOK orc1_ok dok_ok ro1) (by kernel_rfl) h
end Go.Proofs.YtiigcedfkkaaiaaGreatDoor
