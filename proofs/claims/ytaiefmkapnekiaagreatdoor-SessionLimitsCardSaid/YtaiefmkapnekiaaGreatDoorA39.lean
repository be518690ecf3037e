/-
  A call of ordinal/planner.Make: one closed run, under names of its own.
-/
import Derived.Test.YtaiefmkapnekiaaGreatDoorA34
import Derived.Test.YtaiefmkapnekiaaGreatDoorA11
set_option linter.all false
namespace Go.Proofs.YtaiefmkapnekiaaGreatDoor
open Go.Clo
def cMaA : List Value := [.agg ⟨[.slice (some ⟨0, 0, none⟩) 1 1, .int .i64 0, .string ⟨⟨[]⟩⟩, .slice (some ⟨1, 0, none⟩) 1 1, .slice none 0 0]⟩, .slice (some ⟨2, 0, none⟩) 2 2, .agg ⟨[.bool false, .slice (some ⟨3, 0, none⟩) 1 1, .slice (some ⟨4, 0, none⟩) 1 1]⟩]
def cMaP : Go.Clo.Lit := [(0, .cells [.string ⟨⟨[120]⟩⟩] 0),
  (1, .cells [.slice (some ⟨5, 0, none⟩) 1 1, .slice none 0 0] 0),
  (2, .cells [.string ⟨⟨[114]⟩⟩, .slice (some ⟨6, 0, none⟩) 2 2, .string ⟨⟨[115]⟩⟩, .slice (some ⟨7, 0, none⟩) 1 1] 0),
  (3, .cells [.int .u32 1] 1),
  (4, .cells [.int .u32 1, .int .u32 0] 0),
  (5, .cells [.bool false, .string ⟨⟨[114]⟩⟩, .slice (some ⟨8, 0, none⟩) 2 2] 0),
  (6, .cells [.int .i64 1, .int .i64 1] 1),
  (7, .cells [.int .i64 1] 1),
  (8, .cells [.string ⟨⟨[120]⟩⟩, .int .i64 0, .int .i64 0, .string ⟨⟨[]⟩⟩, .string ⟨⟨[121]⟩⟩, .int .i64 0, .int .i64 0, .string ⟨⟨[]⟩⟩] 4)]
def cMaM : Nat := 9
def cMaV : Value := .tuple ⟨[.agg ⟨[.slice (some ⟨489, 0, none⟩) 1 1, .int .i64 0, .string ⟨⟨[]⟩⟩, .slice (some ⟨512, 0, none⟩) 1 1, .slice none 0 0, .slice (some ⟨483, 0, none⟩) 1 1]⟩, .agg ⟨[.int .u32 0, .int .i64 0, .slice none 0 0, .slice none 0 0]⟩, .int .i64 0]⟩
def cMaL : Go.Clo.Lit := [(255, .cells [.bool false] 1),
  (279, .cells [.string ⟨⟨[120]⟩⟩, .string ⟨⟨[121]⟩⟩] 1),
  (335, .cells [.int .i64 0, .int .i64 1] 1),
  (382, .cells [.int .i64 0, .int .i64 1] 1),
  (384, .cells [.string ⟨⟨[114]⟩⟩, .slice (some ⟨335, 0, none⟩) 2 2, .slice (some ⟨382, 0, none⟩) 2 2, .slice none 0 0, .slice none 0 0, .slice none 0 0] 6),
  (483, .cells [.slice (some ⟨279, 0, none⟩) 2 2, .int .i64 1, .slice (some ⟨255, 0, none⟩) 1 1, .slice (some ⟨384, 0, none⟩) 1 1, .int .i64 0, .slice (some ⟨1444, 0, none⟩) 1 1, .slice none 0 0, .slice (some ⟨2152, 0, none⟩) 1 1, .bool false, .slice (some ⟨1909, 0, none⟩) 1 1, .slice (some ⟨1911, 0, none⟩) 1 1] 0),
  (489, .cells [.string ⟨⟨[120]⟩⟩] 1),
  (491, .cells [] 0),
  (509, .cells [.string ⟨⟨[120]⟩⟩, .int .i64 0, .int .i64 0, .string ⟨⟨[]⟩⟩, .string ⟨⟨[121]⟩⟩, .int .i64 0, .int .i64 0, .string ⟨⟨[]⟩⟩] 4),
  (510, .cells [.bool false, .string ⟨⟨[114]⟩⟩, .slice (some ⟨509, 0, none⟩) 2 2] 3),
  (512, .cells [.slice (some ⟨510, 0, none⟩) 1 1, .slice (some ⟨491, 0, none⟩) 0 0] 2),
  (1444, .cells [.int .i64 1] 1),
  (1909, .cells [.int .u32 1] 1),
  (1911, .cells [.int .u32 1] 1),
  (2152, .cells [.int .i64 1] 1)]
def cMaN : Nat := 2164
set_option maxRecDepth 1000000 in
theorem rcMa : litRun Tryz.prog orc1 dok 83 cMaA cMaP cMaM cMaV (cMaL ++ cMaP) cMaN = true := by kernel_rfl
noncomputable def cMaO : O := embR cMaA cMaP cMaM cMaV cMaL cMaN
theorem cMa_ok {args : List Value} {H : Heap} {nx : Nat} {v : Value} {H' : Heap} {nx' : Nat} (h : cMaO args H nx = some (v, H', nx')) : CS Tryz.prog 83 args H nx v H' nx' :=
  embR_ok (litRun_cs mixed namesOK orc1_ok dok_ok rcMa) (by kernel_rfl) h
end Go.Proofs.YtaiefmkapnekiaaGreatDoor
