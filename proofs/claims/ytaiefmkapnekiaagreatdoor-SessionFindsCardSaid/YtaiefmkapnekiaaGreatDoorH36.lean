/-
  engine.Create in the law's example: one closed run, and what of its heap is looked at later.
-/
import Derived.Test.YtaiefmkapnekiaaGreatDoorH34
set_option linter.all false
namespace Go.Proofs.YtaiefmkapnekiaaGreatDoor
open Go.Clo
def c13A : List Value := [.slice (some ⟨2, 0, none⟩) 2 2]
def c13P : Go.Clo.Lit := [(0, .cells [.int .i64 1, .int .i64 1] 0),
  (1, .cells [.int .i64 1] 0),
  (2, .cells [.string ⟨⟨[114]⟩⟩, .slice (some ⟨0, 0, none⟩) 2 2, .string ⟨⟨[115]⟩⟩, .slice (some ⟨1, 0, none⟩) 1 1] 0)]
def c13M : Nat := 3
def c13V : Value := .tuple ⟨[.agg ⟨[.bool true, .int .i64 0, .pointer none, .pointer none, .pointer none, .int .i64 0, .int .i64 4624, .pointer (some ⟨13426, 0, none⟩), .pointer (some ⟨13426, 0, none⟩), .pointer none, .int .i64 0, .int .i64 4112, .int .i64 512, .int .u64 1, .int .u64 1, .int .u64 1, .int .i64 4113, .int .i64 0, .int .i64 0, .map (some 6), .map (some 6), .slice none 0 0, .map (some 13474), .int .i64 0]⟩, .int .i64 0]⟩
def c13L : Go.Clo.Lit := [(6, .map [⟨.string ⟨⟨[114]⟩⟩, .agg ⟨[.slice (some ⟨21, 0, none⟩) 2 2, .int .i64 2, .slice none 0 0]⟩, 0⟩, ⟨.string ⟨⟨[115]⟩⟩, .agg ⟨[.slice (some ⟨36, 0, none⟩) 1 1, .int .i64 1, .slice none 0 0]⟩, 1⟩] 2),
  (21, .cells [.int .i64 1, .int .i64 1] 1),
  (36, .cells [.int .i64 1] 1),
  (11229, .cells [.pointer (some ⟨11230, 0, none⟩), .pointer (some ⟨1045, 0, none⟩), .pointer (some ⟨1744, 0, none⟩), .pointer (some ⟨2443, 0, none⟩), .pointer (some ⟨3142, 0, none⟩), .pointer (some ⟨3841, 0, none⟩), .pointer (some ⟨4540, 0, none⟩), .pointer (some ⟨5239, 0, none⟩), .pointer (some ⟨5938, 0, none⟩), .pointer (some ⟨6637, 0, none⟩), .pointer (some ⟨7336, 0, none⟩), .pointer (some ⟨8035, 0, none⟩), .pointer (some ⟨8734, 0, none⟩), .pointer (some ⟨9433, 0, none⟩), .pointer (some ⟨10132, 0, none⟩), .pointer (some ⟨10831, 0, none⟩), .pointer (some ⟨11178, 0, none⟩), .pointer none, .pointer none, .pointer none, .pointer none, .pointer none, .pointer none, .pointer none, .pointer none, .pointer none, .pointer none, .pointer none, .pointer none, .pointer none, .pointer none, .pointer none] 0),
  (11230, .cells [.pointer none, .pointer none, .pointer none, .pointer none, .pointer none, .pointer none, .pointer none, .pointer none, .pointer none, .pointer none, .pointer none, .pointer none, .pointer none, .pointer none, .pointer none, .pointer none, .pointer (some ⟨11226, 0, none⟩), .pointer (some ⟨49, 0, none⟩), .pointer (some ⟨56, 0, none⟩), .pointer (some ⟨78, 0, none⟩), .pointer (some ⟨100, 0, none⟩), .pointer (some ⟨122, 0, none⟩), .pointer (some ⟨144, 0, none⟩), .pointer (some ⟨166, 0, none⟩), .pointer (some ⟨188, 0, none⟩), .pointer (some ⟨210, 0, none⟩), .pointer (some ⟨232, 0, none⟩), .pointer (some ⟨254, 0, none⟩), .pointer (some ⟨276, 0, none⟩), .pointer (some ⟨298, 0, none⟩), .pointer (some ⟨320, 0, none⟩), .pointer (some ⟨342, 0, none⟩)] 0),
  (13426, .cells [.pointer (some ⟨13427, 0, none⟩), .pointer none, .pointer none, .pointer none, .pointer (some ⟨11229, 0, none⟩), .pointer none, .pointer none, .pointer none, .pointer none, .pointer none, .pointer none, .pointer none, .pointer none, .pointer none, .pointer none, .pointer none, .pointer none, .pointer none, .pointer none, .pointer none, .pointer none, .pointer none, .pointer none, .pointer none, .pointer none, .pointer none, .pointer none, .pointer none, .pointer none, .pointer none, .pointer none, .pointer none] 0),
  (13474, .map [⟨.int .i64 0, .agg ⟨[.map (some 6), .int .i64 0]⟩, 0⟩] 1)]
def c13N : Nat := 13476
set_option maxRecDepth 1000000 in
theorem r13 : litRun Tryz.prog orc1 dok 23 c13A c13P c13M c13V c13L c13N = true := by kernel_rfl
theorem create_cs : CS Tryz.prog 23 c13A (mkH c13P) c13M c13V (mkH c13L) c13N := litRun_cs mixed namesOK orc1_ok dok_ok r13
noncomputable def createO : O := litO c13A c13P c13M c13V c13L c13N
theorem createO_ok {args : List Value} {H : Heap} {nx : Nat} {v : Value} {H' : Heap} {nx' : Nat} (h : createO args H nx = some (v, H', nx')) : CS Tryz.prog 23 args H nx v H' nx' :=
  litO_ok create_cs (by kernel_rfl) h
end Go.Proofs.YtaiefmkapnekiaaGreatDoor
