/-
  A call of ordinal/planner.Make: one closed run, under names of its own.
-/
import Derived.Test.YtbmiedinclieaaaGreatDoorU11
import Derived.Test.YtbmiedinclieaaaGreatDoorU12
import Derived.Test.YtbmiedinclieaaaGreatDoorU13
set_option linter.all false
namespace Go.Proofs.YtbmiedinclieaaaGreatDoor
open Go.Clo
def cMA : List Value := [.agg ⟨[.slice (some ⟨0, 0, none⟩) 1 1, .int .i64 0, .string ⟨⟨[]⟩⟩, .slice (some ⟨1, 0, none⟩) 1 1, .slice none 0 0]⟩, .slice (some ⟨2, 0, none⟩) 1 1, .agg ⟨[.bool false, .slice (some ⟨3, 0, none⟩) 1 1, .slice (some ⟨4, 0, none⟩) 1 1]⟩]
def cMP : Go.Clo.Lit := [(0, .cells [.string ⟨⟨[120]⟩⟩] 0),
  (1, .cells [.slice (some ⟨5, 0, none⟩) 1 1, .slice none 0 0] 0),
  (2, .cells [.string ⟨⟨[114]⟩⟩, .slice (some ⟨6, 0, none⟩) 1 1] 0),
  (3, .cells [.int .u32 1] 1),
  (4, .cells [.int .u32 1, .int .u32 0] 0),
  (5, .cells [.bool false, .string ⟨⟨[114]⟩⟩, .slice (some ⟨7, 0, none⟩) 1 1] 0),
  (6, .cells [.int .i64 1] 1),
  (7, .cells [.string ⟨⟨[120]⟩⟩, .int .i64 0, .int .i64 0, .string ⟨⟨[]⟩⟩] 0)]
def cMM : Nat := 8
def cMV : Value := .tuple ⟨[.agg ⟨[.slice (some ⟨399, 0, none⟩) 1 1, .int .i64 0, .string ⟨⟨[]⟩⟩, .slice (some ⟨422, 0, none⟩) 1 1, .slice none 0 0, .slice (some ⟨393, 0, none⟩) 1 1]⟩, .agg ⟨[.int .u32 0, .int .i64 0, .slice none 0 0, .slice none 0 0]⟩, .int .i64 0]⟩
def cML : Go.Clo.Lit := [(230, .cells [.string ⟨⟨[120]⟩⟩] 1),
  (232, .cells [.bool false] 1),
  (276, .cells [.int .i64 0] 1),
  (292, .cells [.int .i64 0] 1),
  (294, .cells [.string ⟨⟨[114]⟩⟩, .slice (some ⟨276, 0, none⟩) 1 1, .slice (some ⟨292, 0, none⟩) 1 1, .slice none 0 0, .slice none 0 0, .slice none 0 0] 6),
  (393, .cells [.slice (some ⟨230, 0, none⟩) 1 1, .int .i64 1, .slice (some ⟨232, 0, none⟩) 1 1, .slice (some ⟨294, 0, none⟩) 1 1, .int .i64 0, .slice none 0 0, .slice none 0 0, .slice none 0 0, .bool false, .slice (some ⟨862, 0, none⟩) 1 1, .slice (some ⟨864, 0, none⟩) 1 1] 0),
  (399, .cells [.string ⟨⟨[120]⟩⟩] 1),
  (401, .cells [] 0),
  (419, .cells [.string ⟨⟨[120]⟩⟩, .int .i64 0, .int .i64 0, .string ⟨⟨[]⟩⟩] 4),
  (420, .cells [.bool false, .string ⟨⟨[114]⟩⟩, .slice (some ⟨419, 0, none⟩) 1 1] 3),
  (422, .cells [.slice (some ⟨420, 0, none⟩) 1 1, .slice (some ⟨401, 0, none⟩) 0 0] 2),
  (862, .cells [.int .u32 1] 1),
  (864, .cells [.int .u32 1] 1)]
def cMN : Nat := 881
set_option maxRecDepth 1000000 in
theorem rcM : litRun Tryz.prog orc0 dok 43 cMA cMP cMM cMV (cML ++ cMP) cMN = true := by kernel_rfl
set_option maxRecDepth 1000000 in
theorem fcM : fitL cMA cMP cMM cMV cML cMN = true := by kernel_rfl
noncomputable def cMO : O := embR cMA cMP cMM cMV cML cMN
theorem cM_ok {args : List Value} {H : Heap} {nx : Nat} {v : Value} {H' : Heap} {nx' : Nat} (h : cMO args H nx = some (v, H', nx')) : CS Tryz.prog 43 args H nx v H' nx' :=
  embR_ok (litRun_cs mixed namesOK orc0_ok dok_ok rcM) fcM h
end Go.Proofs.YtbmiedinclieaaaGreatDoor
