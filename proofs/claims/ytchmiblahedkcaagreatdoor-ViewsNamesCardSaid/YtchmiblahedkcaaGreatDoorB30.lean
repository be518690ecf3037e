/-
  MADE BY PROGRAM (wip/gen/gen.py): functions 3 as marked code, and their claims written out.
-/
import Derived.Test.YtchmiblahedkcaaGreatDoorB10
import Derived.KernelRfl
set_option linter.all false
namespace Go.Proofs.YtchmiblahedkcaaGreatDoor
open Go.Clo
set_option maxRecDepth 100000
section
variable (a0 : Value) (H : Heap) (nx : Nat) (k : EP)
noncomputable def F3 : Prop :=
 wCall Tryz.prog 4 [] H nx fun b c d =>
 wUn .not b fun b =>
 wIf b (
 Rt bF c d k) (
 wLen a0 0 c fun b =>
 wBin .gtr b (.int .i64 40) fun b =>
 wIf b (
 Rt bT c d k) (
 wBsl 1 1 [.int .i64 0] [(0, i1)] c d fun b c d =>
 wBuild [.string ⟨#[]⟩, .slice none 0 0] [(0, 1), (1, 1)] [(0, (.string ⟨#[114]⟩)), (1, b)] fun b =>
 wBsl 1 2 [.string ⟨#[]⟩, .slice none 0 0] [(0, b)] c d fun b c d =>
 wCall Tryz.prog 5 [b] c d fun b c d =>
 wExt b 0 fun e =>
 wExt b 1 fun _ =>
 wAl [.map none] c d fun b c d =>
 wSt b e 1 c fun c =>
 wBsl 1 1 [.string ⟨#[]⟩] [(0, (.string ⟨#[120]⟩))] c d fun c d e =>
 wBuild [.string ⟨#[]⟩, .int .i64 0, .int .i64 0, .string ⟨#[]⟩] [(0, 1), (1, 3)] [(0, (.string ⟨#[120]⟩))] fun f =>
 wBsl 1 4 [.string ⟨#[]⟩, .int .i64 0, .int .i64 0, .string ⟨#[]⟩] [(0, f)] d e fun d e f =>
 wBuild [.bool false, .string ⟨#[]⟩, .slice none 0 0] [(0, 1), (1, 1), (2, 1)] [(1, (.string ⟨#[114]⟩)), (2, d)] fun d =>
 wBsl 1 3 [.bool false, .string ⟨#[]⟩, .slice none 0 0] [(0, d)] e f fun d e f =>
 wBuild [.slice none 0 0, .slice none 0 0] [(0, 1), (1, 1)] [(0, d)] fun d =>
 wBsl 1 2 [.slice none 0 0, .slice none 0 0] [(0, d)] e f fun d e f =>
 wBuild [.slice none 0 0, .int .i64 0, .string ⟨#[]⟩, .slice none 0 0, .slice none 0 0] [(0, 1), (1, 1), (2, 1), (3, 1), (4, 1)] [(0, c), (3, d)] fun c =>
 wAl [.slice none 0 0, .int .i64 0, .string ⟨#[]⟩, .slice none 0 0, .slice none 0 0] e f fun d e f =>
 wSt d c 5 e fun c =>
 wLd b (some 1) c fun b =>
 wCall Tryz.prog 6 [b] c f fun b c e =>
 wAl [.map none, .map none] c e fun c e f =>
 wSt c b 2 e fun b =>
 wLoop (fun b e f g =>
 wLen a0 0 f fun h =>
 wBin .lss e.b h fun h =>
 wIf h (
 wJoin (fun b =>
 wIx a0 e.b f fun _ h =>
 wLen h 1 f fun h =>
 wBin .gtr h (.int .i64 100) fun h =>
 wIf h (
 Rt bT f g k) (
 wIx a0 e.b f fun _ h =>
 wCall Tryz.prog 7 [e.a, h] f g fun f g h =>
 wIf f (
 forceN (h + 12) fun d =>
 wLd c (some 2) g fun f =>
 wIx a0 e.b g fun i j =>
 wCall Tryz.prog 8 [f, j] g d fun d l m =>
 wExt d 0 fun n =>
 wExt d 1 fun d =>
 wNm h 9 .ptr fun o =>
 hsK l (h + 9) (some (.cells [.map none, .map none] 0)) fun h => wSt o n 2 h fun h =>
 wK ((tA (tA (tB (cE i none g j)))) ∧ (tB (tA (tA (tB (cE c (some 2) g f)))))) (
 wBin .neq d i0 fun d =>
 wIf d (
 Rt bF h m k) (
 wLd o (some 2) h fun d =>
 wSt c d 2 h fun c =>
 wIx a0 e.b c fun _ d =>
 wCall Tryz.prog 9 [e.a, d] c m fun c d e =>
 b [c] d e))) (
 forceN (h + 13) fun f =>
 wLd c (some 2) g fun i =>
 wIx a0 e.b g fun j l =>
 wLd d (some 5) g fun m =>
 wCall Tryz.prog 10 [i, l, m] g f fun f n o =>
 wExt f 0 fun p =>
 wExt f 1 fun f =>
 wNm h 10 .ptr fun q =>
 hsK n (h + 10) (some (.cells [.map none, .map none] 0)) fun h => wSt q p 2 h fun h =>
 wK ((tA (tA (tB (cE d (some 5) g m)))) ∧ ((tA (tA (tB (cE j none g l)))) ∧ (tB (tA (tA (tB (cE c (some 2) g i))))))) (
 wJoin (fun b =>
 wIx a0 e.b h fun _ c =>
 wCall Tryz.prog 11 [c] h o fun c d f =>
 wUn .not c fun c =>
 wIf c (
 b [(.int .i64 7)] d f) (
 wLen e.a 0 d fun c =>
 wBin .eql c (.int .i64 8) fun c =>
 wIf c (
 b [(.int .i64 11)] d f) (
 b [i0] d f))) (fun d g h =>
 wBin .neq f d.a fun d =>
 wIf d (
 Rt bF g h k) (
 wLd q (some 2) g fun d =>
 wSt c d 2 g fun d =>
 wJoin (fun b =>
 wBin .eql f i0 fun c =>
 wIf c (
 wIx a0 e.b d fun _ c =>
 wCall Tryz.prog 12 [e.a, c] d h fun c d e =>
 b [c] d e) (
 b [e.a] d h)) (fun d e f =>
 wLd c (some 2) e fun c =>
 wCall Tryz.prog 14 [c] e f fun c e f =>
 wCall Tryz.prog 13 [c, d.a] e f fun c e f =>
 wUn .not c fun c =>
 wIf c (
 Rt bF e f k) (
 b [d.a] e f)))))))) (fun c d f =>
 wBin .add e.b i1 fun e =>
 b [c.a, e] d f)) (
 wAl [.map none, .map none] f g fun b d f =>
 wLd b (some 2) d fun b =>
 wCall Tryz.prog 14 [b] d f fun b d f =>
 wLen b 0 d fun b =>
 wBin .eql b i0 fun b =>
 wGuard true b (
 wLd c (some 2) d fun b =>
 wCall Tryz.prog 14 [b] d f fun b c d =>
 wCall Tryz.prog 13 [b, e.a] c d fun b c d =>
 Rt b c d k) (
 Rt bF d f k))) [(.slice none 0 0), i0] b f))
variable {a0 H nx k}
theorem spec3 : F3 a0 H nx k → Ans Tryz.prog 3 [a0] H nx k := specA [(15, [7]), (29, [13]), (36, [7])] [[7, 8]] [.one (.tst (.one .nil) (.one .nil))]
end
end Go.Proofs.YtchmiblahedkcaaGreatDoor
