/-
  begin: one closed run (it makes the database of the law), and what of its heap is looked at later.
-/
import Derived.Test.YtaiefmkapnekiaaGreatDoorH34
set_option linter.all false
namespace Go.Proofs.YtaiefmkapnekiaaGreatDoor
open Go.Clo
def r4V : Value := .tuple ⟨[.agg ⟨[.bool true, .int .i64 0, .pointer none, .pointer none, .pointer none, .int .i64 0, .int .i64 4624, .pointer (some ⟨14372, 0, none⟩), .pointer (some ⟨14372, 0, none⟩), .pointer none, .int .i64 0, .int .i64 4112, .int .i64 512, .int .u64 1, .int .u64 1, .int .u64 2, .int .i64 4115, .int .i64 0, .int .i64 1, .map (some 7), .map (some 13518), .slice (some ⟨14408, 0, none⟩) 1 1, .map (some 14884), .int .i64 1, .map (some 14914), .slice (some ⟨14917, 0, none⟩) 1 1]⟩, .bool true]⟩
def r4L : Go.Clo.Lit := [(7, .map [⟨.string ⟨⟨[114]⟩⟩, .agg ⟨[.slice (some ⟨22, 0, none⟩) 2 2, .int .i64 2, .slice none 0 0]⟩, 0⟩, ⟨.string ⟨⟨[115]⟩⟩, .agg ⟨[.slice (some ⟨37, 0, none⟩) 1 1, .int .i64 1, .slice none 0 0]⟩, 1⟩] 2),
  (22, .cells [.int .i64 1, .int .i64 1] 1),
  (37, .cells [.int .i64 1] 1),
  (13518, .map [⟨.string ⟨⟨[114]⟩⟩, .agg ⟨[.slice (some ⟨22, 0, none⟩) 2 2, .int .i64 2, .slice (some ⟨13873, 0, none⟩) 3 3]⟩, 0⟩, ⟨.string ⟨⟨[115]⟩⟩, .agg ⟨[.slice (some ⟨37, 0, none⟩) 1 1, .int .i64 1, .slice (some ⟨13964, 0, none⟩) 1 1]⟩, 1⟩] 2),
  (13611, .cells [.int .i64 1, .int .i64 1, .string ⟨⟨[]⟩⟩, .int .i64 1, .int .i64 2, .string ⟨⟨[]⟩⟩] 3),
  (13749, .cells [.int .i64 1, .int .i64 1, .string ⟨⟨[]⟩⟩, .int .i64 1, .int .i64 3, .string ⟨⟨[]⟩⟩] 3),
  (13873, .cells [.slice (some ⟨13611, 0, none⟩) 2 2, .slice (some ⟨13749, 0, none⟩) 2 2, .slice (some ⟨13875, 0, none⟩) 2 2] 0),
  (13875, .cells [.int .i64 1, .int .i64 2, .string ⟨⟨[]⟩⟩, .int .i64 1, .int .i64 3, .string ⟨⟨[]⟩⟩] 3),
  (13964, .cells [.slice (some ⟨13966, 0, none⟩) 1 1] 0),
  (13966, .cells [.int .i64 1, .int .i64 3, .string ⟨⟨[]⟩⟩] 3),
  (14408, .cells [.slice (some ⟨14281, 0, none⟩) 80 80] 1),
  (14418, .map [⟨.string ⟨⟨[114]⟩⟩, .agg ⟨[.slice (some ⟨22, 0, none⟩) 2 2, .int .i64 2, .slice (some ⟨14773, 0, none⟩) 3 3]⟩, 0⟩, ⟨.string ⟨⟨[115]⟩⟩, .agg ⟨[.slice (some ⟨37, 0, none⟩) 1 1, .int .i64 1, .slice (some ⟨14864, 0, none⟩) 1 1]⟩, 1⟩] 2),
  (14511, .cells [.int .i64 1, .int .i64 1, .string ⟨⟨[]⟩⟩, .int .i64 1, .int .i64 2, .string ⟨⟨[]⟩⟩] 3),
  (14649, .cells [.int .i64 1, .int .i64 1, .string ⟨⟨[]⟩⟩, .int .i64 1, .int .i64 3, .string ⟨⟨[]⟩⟩] 3),
  (14773, .cells [.slice (some ⟨14511, 0, none⟩) 2 2, .slice (some ⟨14649, 0, none⟩) 2 2, .slice (some ⟨14775, 0, none⟩) 2 2] 0),
  (14775, .cells [.int .i64 1, .int .i64 2, .string ⟨⟨[]⟩⟩, .int .i64 1, .int .i64 3, .string ⟨⟨[]⟩⟩] 3),
  (14864, .cells [.slice (some ⟨14866, 0, none⟩) 1 1] 0),
  (14866, .cells [.int .i64 1, .int .i64 3, .string ⟨⟨[]⟩⟩] 3),
  (14884, .map [⟨.int .i64 0, .agg ⟨[.map (some 7), .int .i64 0]⟩, 0⟩, ⟨.int .i64 1, .agg ⟨[.map (some 14418), .int .i64 0]⟩, 1⟩] 2),
  (14911, .map [] 0),
  (14914, .map [⟨.int .i64 1, .map (some 14911), 0⟩] 1),
  (14917, .cells [.int .i64 1, .slice none 0 0] 0)]
def r4N : Nat := 14918
set_option maxRecDepth 1000000 in
theorem r4 : litRun Tryz.prog orc1 dok 5 [] [] 0 r4V r4L r4N = true := by kernel_rfl
theorem begin_cs : CS Tryz.prog 5 [] (mkH []) 0 r4V (mkH r4L) r4N := litRun_cs mixed namesOK orc1_ok dok_ok r4
end Go.Proofs.YtaiefmkapnekiaaGreatDoor
