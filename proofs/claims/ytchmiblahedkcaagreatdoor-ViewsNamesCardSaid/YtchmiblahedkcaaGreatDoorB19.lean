/-
  MADE BY PROGRAM (wip/gen/gen.py): functions 8 10 as marked code, and their claims written out.
-/
import Derived.Test.YtchmiblahedkcaaGreatDoorB10
import Derived.KernelRfl
set_option linter.all false
namespace Go.Proofs.YtchmiblahedkcaaGreatDoor
open Go.Clo
set_option maxRecDepth 100000
section
variable (a0 a1 a2 : Value) (H : Heap) (nx : Nat) (k : EP)
noncomputable def F8 : Prop :=
 wBox a0 H nx fun b c d =>
 wAl [.map none, .map none] c d fun c d e =>
 wFl b 1 d fun _ f =>
 wLk .string (.agg ⟨[.slice none 0 0, .int .i64 0, .string ⟨#[]⟩, .slice none 0 0, .slice none 0 0, .slice none 0 0, .nilIface]⟩) f a1 true d fun f =>
 wExt f 0 fun g =>
 wExt f 1 fun f =>
 wAl [.slice none 0 0, .int .i64 0, .string ⟨#[]⟩, .slice none 0 0, .slice none 0 0, .slice none 0 0, .nilIface] d e fun d e h =>
 wSt d g 7 e fun d =>
 wUn .not f fun e =>
 wIf e (
 wLd b (some 2) d fun b =>
 wSt c b 2 d fun b =>
 wLd c (some 2) b fun c =>
 Rt (.tuple ⟨[c, (.int .i64 9)]⟩) b h k) (
 wLd b (some 2) d fun e =>
 wCall Tryz.prog 22 [e] d h fun d e f =>
 wDel .string d a1 e f fun _ e f =>
 wFls b 0 1 e fun _ b =>
 wBuild [.map none, .map none] [(0, 1), (1, 1)] [(0, b), (1, d)] fun b =>
 wSt c b 2 e fun b =>
 wLd c (some 2) b fun c =>
 Rt (.tuple ⟨[c, i0]⟩) b f k)
noncomputable def F10 : Prop :=
 wBox a0 H nx fun b c d =>
 wBox a2 c d fun c d e =>
 wAl [.map none, .map none] d e fun d e f =>
 wCall Tryz.prog 11 [a1] e f fun e f g =>
 wUn .not e fun e =>
 wIf e (
 wLd b (some 2) f fun b =>
 wSt d b 2 f fun b =>
 wLd d (some 2) b fun c =>
 Rt (.tuple ⟨[c, (.int .i64 7)]⟩) b g k) (
 wFl b 1 f fun _ e =>
 wLk .string (.agg ⟨[.slice none 0 0, .int .i64 0, .string ⟨#[]⟩, .slice none 0 0, .slice none 0 0, .slice none 0 0, .nilIface]⟩) e a1 true f fun e =>
 wExt e 0 fun h =>
 wExt e 1 fun e =>
 wAl [.slice none 0 0, .int .i64 0, .string ⟨#[]⟩, .slice none 0 0, .slice none 0 0, .slice none 0 0, .nilIface] f g fun f g i =>
 wSt f h 7 g fun f =>
 wIf e (
 wLd b (some 2) f fun b =>
 wSt d b 2 f fun b =>
 wLd d (some 2) b fun c =>
 Rt (.tuple ⟨[c, (.int .i64 8)]⟩) b i k) (
 wFl b 1 f fun _ e =>
 wLen e 2 f fun e =>
 wBin .geq e (.int .i64 8) fun e =>
 wIf e (
 wLd b (some 2) f fun b =>
 wSt d b 2 f fun b =>
 wLd d (some 2) b fun c =>
 Rt (.tuple ⟨[c, (.int .i64 11)]⟩) b i k) (
 forceN (i + 15) fun e =>
 wLd c (some 5) f fun g =>
 wFls b 0 1 f fun h j =>
 wCall Tryz.prog 24 [j] f e fun e l m =>
 wCall Tryz.prog 25 [i1] l m fun m n o =>
 wCall Tryz.prog 23 [g, e, m] n o fun e m o =>
 wExt e 0 fun p =>
 wExt e 1 fun q =>
 wExt e 2 fun e =>
 wNm i 10 .ptr fun r =>
 wNm i 11 .ptr fun s =>
 hsK m (i + 11) (some (.cells [.int .u32 0, .int .i64 0, .slice none 0 0, .slice none 0 0] 0)) fun m => hsK m (i + 10) (some (.cells [.slice none 0 0, .int .i64 0, .string ⟨#[]⟩, .slice none 0 0, .slice none 0 0, .slice none 0 0] 0)) fun i => wSt r p 6 i fun i =>
 wSt s q 4 i fun i =>
 wK ((tA (tA (tA (tA (tA (tB (cE h (some 1) f j))))))) ∧ (tB (tA (tA (tA ((cE c (some 5) n g) ∧ ((cE c (some 5) l g) ∧ (tB (cE c (some 5) f g))))))))) (
 wBin .neq e i0 fun c =>
 wIf c (
 wLd b (some 2) i fun b =>
 wSt d b 2 i fun b =>
 wLd d (some 2) b fun c =>
 Rt (.tuple ⟨[c, e]⟩) b o k) (
 wLd r (some 6) i fun c =>
 wFls b 0 1 i fun _ e =>
 wCall Tryz.prog 26 [c, e] i o fun c e f =>
 wExt c 0 fun g =>
 wExt c 1 fun _ =>
 wExt c 2 fun c =>
 wBin .neq c i0 fun h =>
 wIf h (
 wLd b (some 2) e fun b =>
 wSt d b 2 e fun b =>
 wLd d (some 2) b fun d =>
 Rt (.tuple ⟨[d, c]⟩) b f k) (
 wLd b (some 2) e fun c =>
 wCall Tryz.prog 22 [c] e f fun c e f =>
 wLd r (some 6) e fun h =>
 wBuild [.slice none 0 0, .int .i64 0, .string ⟨#[]⟩, .slice none 0 0, .slice none 0 0, .slice none 0 0, .nilIface] [(0, 6), (6, 1)] [(0, h), (1, g)] fun g =>
 wUpd .string c a1 g e f fun _ e f =>
 wFls b 0 1 e fun _ b =>
 wBuild [.map none, .map none] [(0, 1), (1, 1)] [(0, b), (1, c)] fun b =>
 wSt d b 2 e fun b =>
 wLd d (some 2) b fun c =>
 Rt (.tuple ⟨[c, i0]⟩) b f k))))))
variable {a0 a1 a2 H nx k}
theorem spec8 : F8 a0 a1 H nx k → Ans Tryz.prog 8 [a0, a1] H nx k := specA [] [] []
theorem spec10 : F10 a0 a1 a2 H nx k → Ans Tryz.prog 10 [a0, a1, a2] H nx k := specA [] [] []
end
end Go.Proofs.YtchmiblahedkcaaGreatDoor
