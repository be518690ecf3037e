/-
  MADE BY PROGRAM (wip/gen/gen.py): functions 76 35 31 33 34 as marked code, and their claims written out.
  MADE BY PROGRAM (wip/gen/gen.py): functions 9 11 13 as marked code, and their claims written out.
  MADE BY PROGRAM (wip/gen/gen.py): functions 37 6 as marked code, and their claims written out.
  MADE BY PROGRAM (wip/gen/gen.py): functions 3 8 26 as marked code, and their claims written out.
  MADE BY PROGRAM (wip/gen/gen.py): functions 7 10 12 15 as marked code, and their claims written out.
  MADE BY PROGRAM (wip/gen/gen.py): functions 158 as marked code, and their claims written out.
-/
import Derived.Test.YtbmiedinclieaaaGreatDoorU4
import Derived.KernelRfl
set_option linter.all false
namespace Go.Proofs.YtbmiedinclieaaaGreatDoor
open Go.Clo
set_option maxRecDepth 100000
section
variable (a0 a1 a2 : Value) (H : Heap) (nx : Nat) (k : EP)
noncomputable def F76 : Prop :=
 wBox a0 H nx fun b c d =>
 wBox a2 c d fun c d e =>
 wAl [.map none, .int .i64 0] d e fun d e f =>
 wFl b 0 e fun _ g =>
 wCall Tryz.prog 74 [g] e f fun e f g =>
 wLd c (some 2) f fun c =>
 wUpd (.int .i64) e a1 c f g fun _ c f =>
 wFl b 1 c fun _ b =>
 wBuild [.map none, .int .i64 0] [(0, 1), (1, 1)] [(0, e), (1, b)] fun b =>
 wSt d b 2 c fun b =>
 wLd d (some 2) b fun c =>
 Rt c b f k
noncomputable def F35 : Prop :=
 wBox a0 H nx fun b c d =>
 wAl [.map none] c d fun c d e =>
 wFl b 0 d fun _ b =>
 wLk (.int .i64) (.agg ⟨[.map none, .int .i64 0]⟩) b a1 true d fun b =>
 wExt b 0 fun f =>
 wExt b 1 fun b =>
 wAl [.map none, .int .i64 0] d e fun d e g =>
 wSt d f 2 e fun e =>
 wUn .not b fun b =>
 wIf b (
 wBuild [.map none] [(0, 1)] [] fun b =>
 wSt c b 1 e fun b =>
 wLd c (some 1) b fun c =>
 Rt (.tuple ⟨[c, (.int .i64 31)]⟩) b g k) (
 wFls d 0 1 e fun _ b =>
 wSt c b 1 e fun b =>
 wLd c (some 1) b fun c =>
 Rt (.tuple ⟨[c, i0]⟩) b g k)
noncomputable def F31 : Prop :=
 wBox a0 H nx fun b c d =>
 wFl b 0 c fun _ b =>
 wCall Tryz.prog 73 [b] c d fun b c d =>
 wCall Tryz.prog 72 [b] c d fun b c d =>
 Rt b c d k
noncomputable def F33 : Prop :=
 wBox a0 H nx fun b c d =>
 wAl [.map none, .int .i64 0] c d fun c d e =>
 wFl b 0 d fun _ f =>
 wLen f 2 d fun f =>
 wBin .eql f i0 fun f =>
 wIf f (
 wLd b (some 2) d fun b =>
 wSt c b 2 d fun b =>
 wLd c (some 2) b fun c =>
 Rt (.tuple ⟨[c, i0, (.int .i64 31)]⟩) b e k) (
 wFl b 0 d fun _ f =>
 wLen f 2 d fun f =>
 wBin .geq f (.int .i64 64) fun f =>
 wIf f (
 wLd b (some 2) d fun b =>
 wSt c b 2 d fun b =>
 wLd c (some 2) b fun c =>
 Rt (.tuple ⟨[c, i0, (.int .i64 11)]⟩) b e k) (
 wFl b 0 d fun _ f =>
 wFl b 1 d fun _ g =>
 wLk (.int .i64) (.agg ⟨[.map none, .int .i64 0]⟩) f g false d fun f =>
 wPart f 0 (some 1) fun f =>
 wCall Tryz.prog 68 [f, a1] d e fun d e f =>
 wExt d 0 fun g =>
 wExt d 1 fun _ =>
 wExt d 2 fun d =>
 wAl [.map none] e f fun e f h =>
 wSt e g 1 f fun f =>
 wBin .neq d i0 fun g =>
 wIf g (
 wLd b (some 2) f fun b =>
 wSt c b 2 f fun b =>
 wLd c (some 2) b fun c =>
 Rt (.tuple ⟨[c, i0, d]⟩) b h k) (
 wLd b (some 2) f fun d =>
 wFl b 1 f fun _ g =>
 wBin .add g i1 fun g =>
 wLd e (some 1) f fun e =>
 wBuild [.map none, .int .i64 0] [(0, 1), (1, 1)] [(0, e)] fun e =>
 wCall Tryz.prog 76 [d, g, e] f h fun d e f =>
 wAl [.map none, .int .i64 0] e f fun e f g =>
 wSt e d 2 f fun d =>
 wFl b 1 d fun _ b =>
 wBin .add b i1 fun b =>
 wFld e 1 fun f =>
 wSt f b 1 d fun b =>
 forceN (g + 6) fun d =>
 wLd e (some 2) b fun f =>
 wFl e 1 b fun g h =>
 wSt c f 2 b fun i =>
 wK (((cE g none i h) ∧ (tB (cE g none b h))) ∧ (tB (tA (tB (cE e (some 2) b f))))) (
 wLd c (some 2) i fun b =>
 Rt (.tuple ⟨[b, h, i0]⟩) i d k))))
noncomputable def F34 : Prop :=
 wBox a0 H nx fun b c d =>
 wAl [.map none, .int .i64 0] c d fun c d e =>
 wFl b 0 d fun _ f =>
 wLk (.int .i64) (.agg ⟨[.map none, .int .i64 0]⟩) f a1 true d fun f =>
 wExt f 0 fun g =>
 wExt f 1 fun f =>
 wAl [.map none, .int .i64 0] d e fun d e h =>
 wSt d g 2 e fun e =>
 wUn .not f fun f =>
 wIf f (
 wLd b (some 2) e fun b =>
 wSt c b 2 e fun b =>
 wLd c (some 2) b fun c =>
 Rt (.tuple ⟨[c, (.int .i64 31)]⟩) b h k) (
 wFl d 1 e fun _ f =>
 wBin .add f i1 fun f =>
 wFld d 1 fun g =>
 wSt g f 1 e fun e =>
 wLd b (some 2) e fun b =>
 wLd d (some 2) e fun d =>
 wCall Tryz.prog 76 [b, a1, d] e h fun b d e =>
 wSt c b 2 d fun b =>
 wLd c (some 2) b fun c =>
 Rt (.tuple ⟨[c, i0]⟩) b e k)
variable {a0 a1 a2 H nx k}
theorem spec76 : F76 a0 a1 a2 H nx k → Ans Tryz.prog 76 [a0, a1, a2] H nx k := specA [] [] []
theorem spec35 : F35 a0 a1 H nx k → Ans Tryz.prog 35 [a0, a1] H nx k := specA [] [] []
theorem spec31 : F31 a0 H nx k → Ans Tryz.prog 31 [a0] H nx k := specA [] [] []
theorem spec33 : F33 a0 a1 H nx k → Ans Tryz.prog 33 [a0, a1] H nx k := specA [] [] []
theorem spec34 : F34 a0 a1 H nx k → Ans Tryz.prog 34 [a0, a1] H nx k := specA [] [] []
end
end Go.Proofs.YtbmiedinclieaaaGreatDoor

namespace Go.Proofs.YtbmiedinclieaaaGreatDoor
open Go.Clo
set_option maxRecDepth 100000
section
variable (a0 a1 a2 : Value) (H : Heap) (nx : Nat) (k : EP)
noncomputable def F9 : Prop :=
 wBox a0 H nx fun b c d =>
 wAl [.int .i64 0, .int .i64 0, .int .i64 0, .slice none 0 0, .slice none 0 0, .bool false] c d fun c d e =>
 wLd b (some 6) d fun f =>
 wAl [.int .i64 0, .int .i64 0, .int .i64 0, .slice none 0 0, .slice none 0 0, .bool false] d e fun d e g =>
 wSt d f 6 e fun e =>
 wJoin (fun c =>
 wFl b 3 e fun _ f =>
 wLen f 0 e fun f =>
 wBin .eql f (.int .i64 64) fun f =>
 wIf f (
 wFld d 3 fun f =>
 wSt f (.slice none 0 0) 1 e fun e =>
 wFld d 4 fun f =>
 wSt f (.slice none 0 0) 1 e fun e =>
 wLoop (fun e f g h =>
 wFl b 3 g fun _ i =>
 wLen i 0 g fun i =>
 wBin .lss f.a i fun i =>
 wIf i (
 wJoin (fun c =>
 wJoin (fun c =>
 wFl b 4 g fun _ d =>
 wIx d f.a g fun _ d =>
 wBin .gtr d i0 fun d =>
 wGuard false d (
 wFl b 3 g fun _ b =>
 wLen b 0 g fun b =>
 wBin .sub b i1 fun b =>
 wBin .eql f.a b fun b =>
 c [b] g h) (
 c [bT] g h)) (fun e g h =>
 wIf e.a (
 forceN (h + 11) fun e =>
 wFl d 3 g fun i j =>
 wFl b 3 g fun l m =>
 wIx m f.a g fun n o =>
 dBsl 1 1 [.int .i64 0] [(0, o)] fun p => wNm h 7 (.slice 1 1) fun q =>
 hsK g (h + 7) (some (.cells p 0)) fun h => wApp j q 1 8 h e fun e h p =>
 wFld d 3 fun q =>
 wSt q e 1 h fun e =>
 wK ((tA (tA (tB (cE n none g o)))) ∧ ((tA (tA (tB (cE l none g m)))) ∧ (tB (tA (tA (tB (cE i none g j))))))) (
 forceN (p + 11) fun g =>
 wFl d 4 e fun h i =>
 wFl b 4 e fun b j =>
 wIx j f.a e fun f l =>
 dBsl 1 1 [.int .i64 0] [(0, l)] fun m => wNm p 7 (.slice 1 1) fun n =>
 hsK e (p + 7) (some (.cells m 0)) fun m => wApp i n 1 8 m g fun g m n =>
 wFld d 4 fun d =>
 wSt d g 1 m fun d =>
 wK ((tA (tA (tB (cE f none e l)))) ∧ ((tA (tA (tB (cE b none e j)))) ∧ (tB (tA (tA (tB (cE h none e i))))))) (
 c [] d n))) (
 c [] g h))) (fun _ b c =>
 wBin .add f.a i1 fun d =>
 e [d] b c)) (
 c [] g h)) [i0] e g) (
 c [] e g)) (fun _ b e =>
 wFl d 1 b fun _ f =>
 wBin .add f i1 fun f =>
 wFld d 1 fun g =>
 wSt g f 1 b fun b =>
 forceN (e + 10) fun f =>
 dBsl 0 1 [.int .i64 0] [] fun g => wNm e 0 (.slice 0 0) fun h =>
 wFl d 3 b fun i j =>
 hsK b (e + 0) (some (.cells g 0)) fun g => wApp h j 1 8 g f fun f g h =>
 wFl d 1 g fun l m =>
 dBsl 1 1 [.int .i64 0] [(0, m)] fun n => wNm e 6 (.slice 1 1) fun o =>
 hsK g (e + 6) (some (.cells n 0)) fun e => wApp f o 1 8 e h fun e f h =>
 wFld d 3 fun n =>
 wSt n e 1 f fun e =>
 wK ((tA (tA ((cE l none g m) ∧ (tB (cE l none b m))))) ∧ (tB (tA (tA (tA (tB (cE i none b j))))))) (
 wBsl 0 1 [.int .i64 0] [] e h fun b e f =>
 wFl d 4 e fun _ g =>
 wApp b g 1 8 e f fun b e f =>
 wBsl 1 1 [.int .i64 0] [(0, i0)] e f fun e f g =>
 wApp b e 1 8 f g fun b e f =>
 wFld d 4 fun g =>
 wSt g b 1 e fun b =>
 wLd d (some 6) b fun d =>
 wSt c d 6 b fun b =>
 wLd c (some 6) b fun c =>
 Rt c b f k))
noncomputable def F11 : Prop :=
 wBox a0 H nx fun b c d =>
 wAl [.int .i64 0, .int .i64 0, .int .i64 0, .slice none 0 0, .slice none 0 0, .bool false] c d fun c d e =>
 wLd b (some 6) d fun f =>
 wCall Tryz.prog 13 [f, a1] d e fun d e f =>
 wJoin (fun c =>
 wBin .lss d i0 fun g =>
 wGuard false g (
 wFl b 4 e fun _ b =>
 wIx b d e fun _ b =>
 wBin .add b a2 fun b =>
 wBin .lss b i0 fun b =>
 c [b] e f) (
 c [bT] e f)) (fun e f g =>
 wIf e.a (
 wLd b (some 6) f fun b =>
 wSt c b 6 f fun b =>
 wLd c (some 6) b fun c =>
 Rt (.tuple ⟨[c, bF]⟩) b g k) (
 wLd b (some 6) f fun e =>
 wAl [.int .i64 0, .int .i64 0, .int .i64 0, .slice none 0 0, .slice none 0 0, .bool false] f g fun f g h =>
 wSt f e 6 g fun e =>
 wBsl 0 1 [.int .i64 0] [] e h fun e g h =>
 wFl b 4 g fun _ b =>
 wApp e b 1 8 g h fun b e g =>
 wFld f 4 fun h =>
 wSt h b 1 e fun b =>
 forceN (g + 12) fun e =>
 wFl f 4 b fun g h =>
 wFl f 4 b fun i j =>
 wIx j d b fun l m =>
 wBin .add m a2 fun n =>
 wIdx h d none 1 fun d =>
 wSt d n 1 b fun d =>
 wK ((tA (tB (cE l none b m))) ∧ ((tA (tB (cE i none b j))) ∧ (tB (tA (tB (cE g none b h)))))) (
 wLd f (some 6) d fun b =>
 wSt c b 6 d fun b =>
 wLd c (some 6) b fun c =>
 Rt (.tuple ⟨[c, bT]⟩) b e k)))
noncomputable def F13 : Prop :=
 wBox a0 H nx fun b c d =>
 wLoop (fun c d e f =>
 wFl b 3 e fun _ g =>
 wLen g 0 e fun g =>
 wBin .lss d.a g fun g =>
 wIf g (
 wFl b 3 e fun _ b =>
 wIx b d.a e fun _ b =>
 wBin .eql b a1 fun b =>
 wIf b (
 Rt d.a e f k) (
 wBin .add d.a i1 fun b =>
 c [b] e f)) (
 Rt (.int .i64 (-1)) e f k)) [i0] c d
variable {a0 a1 a2 H nx k}
theorem spec9 : F9 a0 H nx k → Ans Tryz.prog 9 [a0] H nx k := specA [(2, []), (8, []), (9, [32])] [[4]] [.one (.tst (.one .nil) (.one .nil))]
theorem spec11 : F11 a0 a1 a2 H nx k → Ans Tryz.prog 11 [a0, a1, a2] H nx k := specA [(3, [24])] [] [.one (.tst (.one .nil) (.one .nil))]
theorem spec13 : F13 a0 a1 H nx k → Ans Tryz.prog 13 [a0, a1] H nx k := specA [] [[5]] []
end
end Go.Proofs.YtbmiedinclieaaaGreatDoor

namespace Go.Proofs.YtbmiedinclieaaaGreatDoor
open Go.Clo
set_option maxRecDepth 100000
section
variable (a0 : Value) (H : Heap) (nx : Nat) (k : EP)
noncomputable def F37 : Prop :=
 wBox a0 H nx fun b c d =>
 wFl b 1 c fun _ b =>
 Rt b c d k
noncomputable def F6 : Prop :=
 wAl [.int .i64 0, .int .i64 0, .int .i64 0, .slice none 0 0, .slice none 0 0, .bool false] H nx fun b c d =>
 wBsl 1 1 [.int .i64 0] [(0, i0)] c d fun c d e =>
 wBsl 1 1 [.int .i64 0] [(0, i0)] d e fun d e f =>
 wBuild [.int .i64 0, .int .i64 0, .int .i64 0, .slice none 0 0, .slice none 0 0, .bool false] [(0, 1), (1, 1), (2, 1), (3, 1), (4, 1), (5, 1)] [(3, c), (4, d)] fun c =>
 wSt b c 6 e fun c =>
 wLd b (some 6) c fun b =>
 Rt b c f k
variable {a0 H nx k}
theorem spec37 : F37 a0 H nx k → Ans Tryz.prog 37 [a0] H nx k := specA [] [] []
theorem spec6 : F6 H nx k → Ans Tryz.prog 6 [] H nx k := specA [] [] []
end
end Go.Proofs.YtbmiedinclieaaaGreatDoor

namespace Go.Proofs.YtbmiedinclieaaaGreatDoor
open Go.Clo
set_option maxRecDepth 100000
section
variable (a0 a1 : Value) (H : Heap) (nx : Nat) (k : EP)
noncomputable def F3 : Prop :=
 wCall Tryz.prog 4 [] H nx fun b c d =>
 wUn .not b fun b =>
 wIf b (
 Rt bF c d k) (
 wLen a0 0 c fun b =>
 wBin .gtr b (.int .i64 20) fun b =>
 wIf b (
 Rt bT c d k) (
 wBsl 1 1 [.int .i64 0] [(0, i1)] c d fun b c d =>
 wBuild [.string ⟨#[]⟩, .slice none 0 0] [(0, 1), (1, 1)] [(0, (.string ⟨#[114]⟩)), (1, b)] fun b =>
 wBsl 1 2 [.string ⟨#[]⟩, .slice none 0 0] [(0, b)] c d fun b c d =>
 wCall Tryz.prog 5 [b] c d fun b c d =>
 wExt b 0 fun e =>
 wExt b 1 fun b =>
 wAl [.bool false, .int .i64 0, .pointer none, .pointer none, .pointer none, .int .i64 0, .int .i64 0, .pointer none, .pointer none, .pointer none, .int .i64 0, .int .i64 0, .int .i64 0, .int .u64 0, .int .u64 0, .int .u64 0, .int .i64 0, .int .i64 0, .int .i64 0, .map none, .map none, .slice none 0 0, .map none, .int .i64 0] c d fun c d f =>
 wSt c e 24 d fun d =>
 wCall Tryz.prog 6 [] d f fun d e f =>
 wAl [.int .i64 0, .int .i64 0, .int .i64 0, .slice none 0 0, .slice none 0 0, .bool false] e f fun e f g =>
 wSt e d 6 f fun d =>
 wBin .neq b i0 fun b =>
 wIf b (
 Rt bF d g k) (
 wLoop (fun b d f g =>
 wBin .rem a1 (.int .u8 30) fun h =>
 wConv .i64 h fun h =>
 wBin .add (.int .i64 64) h fun h =>
 wBin .lss d.a h fun h =>
 wIf h (
 forceN (g + 11) fun h =>
 wLd c (some 24) f fun i =>
 wCall Tryz.prog 8 [d.a] f h fun h j l =>
 dBsl 1 3 [.bool false, .string ⟨#[]⟩, .slice none 0 0] [(0, h)] fun h => wNm g 3 (.slice 1 1) fun m =>
 hsK j (g + 3) (some (.cells h 0)) fun h => wCall Tryz.prog 7 [i, m] h l fun h l m =>
 wExt h 0 fun n =>
 wExt h 1 fun h =>
 wNm g 8 .ptr fun o =>
 hsK l (g + 8) (some (.cells [.bool false, .int .i64 0, .pointer none, .pointer none, .pointer none, .int .i64 0, .int .i64 0, .pointer none, .pointer none, .pointer none, .int .i64 0, .int .i64 0, .int .i64 0, .int .u64 0, .int .u64 0, .int .u64 0, .int .i64 0, .int .i64 0, .int .i64 0, .map none, .map none, .slice none 0 0, .map none, .int .i64 0] 0)) fun g => wSt o n 24 g fun g =>
 wK (tB (tA (tA ((cE c (some 24) j i) ∧ (tB (cE c (some 24) f i)))))) (
 wBin .neq h i0 fun f =>
 wIf f (
 Rt bF g m k) (
 forceN (m + 5) fun f =>
 wLd o (some 24) g fun h =>
 wLd e (some 6) g fun i =>
 wCall Tryz.prog 9 [i] g f fun f j l =>
 wSt c h 24 j fun m =>
 wSt e f 6 m fun f =>
 wK ((tA (tA (tA (tB (cE e (some 6) g i))))) ∧ (tB (tA (tA ((cE o (some 24) j h) ∧ (tB (cE o (some 24) g h))))))) (
 wLoop (fun f g h i =>
 wJoin (fun b =>
 wLen a0 0 h fun c =>
 wBin .lss g.a c fun c =>
 wGuard true c (
 wBin .eql d.a (.int .i64 40) fun c =>
 b [c] h i) (
 b [bF] h i)) (fun h i j =>
 wIf h.a (
 wIx a0 g.a i fun _ b =>
 wConv .i64 b fun b =>
 wBin .rem b (.int .i64 41) fun b =>
 wLd c (some 24) i fun d =>
 wCall Tryz.prog 10 [d, b] i j fun d h i =>
 wExt d 0 fun j =>
 wExt d 1 fun d =>
 wAl [.bool false, .int .i64 0, .pointer none, .pointer none, .pointer none, .int .i64 0, .int .i64 0, .pointer none, .pointer none, .pointer none, .int .i64 0, .int .i64 0, .int .i64 0, .int .u64 0, .int .u64 0, .int .u64 0, .int .i64 0, .int .i64 0, .int .i64 0, .map none, .map none, .slice none 0 0, .map none, .int .i64 0] h i fun h i l =>
 wSt h j 24 i fun i =>
 wLd e (some 6) i fun j =>
 wCall Tryz.prog 11 [j, b, i1] i l fun b i j =>
 wExt b 0 fun l =>
 wExt b 1 fun b =>
 wAl [.int .i64 0, .int .i64 0, .int .i64 0, .slice none 0 0, .slice none 0 0, .bool false] i j fun i j m =>
 wSt i l 6 j fun j =>
 wJoin (fun c =>
 wBin .neq d i0 fun d =>
 wGuard false d (
 wUn .not b fun b =>
 c [b] j m) (
 c [bT] j m)) (fun b d j =>
 wIf b.a (
 Rt bF d j k) (
 forceN (j + 4) fun b =>
 wLd h (some 24) d fun j =>
 wLd i (some 6) d fun l =>
 wSt c j 24 d fun c =>
 wSt e l 6 c fun e =>
 wK ((tA ((cE i (some 6) c l) ∧ (tB (cE i (some 6) d l)))) ∧ (tB (tA (tA (tB (cE h (some 24) d j)))))) (
 wBin .add g.a i1 fun c =>
 f [c] e b)))) (
 wBin .add d.a i1 fun c =>
 b [c] i j))) [i0] f l)))) (
 wLoop (fun b d f g =>
 wFl e 1 f fun _ h =>
 wBin .leq d.a h fun h =>
 wIf h (
 wLd c (some 24) f fun c =>
 wCall Tryz.prog 12 [c, d.a] f g fun c f g =>
 wExt c 0 fun h =>
 wExt c 1 fun c =>
 wAl [.map none] f g fun f g i =>
 wSt f h 1 g fun g =>
 wJoin (fun b =>
 wLd e (some 6) g fun h =>
 wCall Tryz.prog 13 [h, d.a] g i fun g h i =>
 wBin .lss g i0 fun g =>
 wGuard true g (
 wBin .neq c (.int .i64 31) fun g =>
 wGuard false g (
 wLd e (some 6) h fun e =>
 wCall Tryz.prog 13 [e, d.a] h i fun e g h =>
 wBin .geq e i0 fun e =>
 wGuard true e (
 wBin .neq c i0 fun c =>
 wGuard false c (
 wLd f (some 1) g fun c =>
 wCall Tryz.prog 14 [c] g h fun c e f =>
 wBin .neq c d.a fun c =>
 b [c] e f) (
 b [bT] g h)) (
 b [bF] g h)) (
 b [bT] h i)) (
 wLd e (some 6) h fun e =>
 wCall Tryz.prog 13 [e, d.a] h i fun e g h =>
 wBin .geq e i0 fun e =>
 wGuard true e (
 wBin .neq c i0 fun c =>
 wGuard false c (
 wLd f (some 1) g fun c =>
 wCall Tryz.prog 14 [c] g h fun c e f =>
 wBin .neq c d.a fun c =>
 b [c] e f) (
 b [bT] g h)) (
 b [bF] g h))) (fun c e f =>
 wIf c.a (
 Rt bF e f k) (
 wBin .add d.a i1 fun c =>
 b [c] e f))) (
 forceN (g + 6) fun b =>
 wLd c (some 24) f fun d =>
 wCall Tryz.prog 15 [d] f b fun b g h =>
 wFl e 1 g fun e i =>
 wBin .eql b i fun b =>
 wK (((cE e none g i) ∧ (tB (cE e none f i))) ∧ (tB (tA (tB (cE c (some 24) f d))))) (
 Rt b g h k))) [i0] f g)) [i0] d g)))
noncomputable def F8 : Prop :=
 wAl [.bool false, .string ⟨#[]⟩, .slice none 0 0] H nx fun b c d =>
 wCall Tryz.prog 26 [a0] c d fun c d e =>
 wBsl 1 3 [.int .i64 0, .int .i64 0, .string ⟨#[]⟩] [(0, c)] d e fun c d e =>
 wBuild [.bool false, .string ⟨#[]⟩, .slice none 0 0] [(0, 1), (1, 1), (2, 1)] [(1, (.string ⟨#[114]⟩)), (2, c)] fun c =>
 wSt b c 3 d fun c =>
 wLd b (some 3) c fun b =>
 Rt b c e k
noncomputable def F26 : Prop :=
 wAl [.int .i64 0, .int .i64 0, .string ⟨#[]⟩] H nx fun b c d =>
 wBuild [.int .i64 0, .int .i64 0, .string ⟨#[]⟩] [(0, 1), (1, 1), (2, 1)] [(0, i1), (1, a0)] fun e =>
 wSt b e 3 c fun c =>
 wLd b (some 3) c fun b =>
 Rt b c d k
variable {a0 a1 H nx k}
theorem spec3 : F3 a0 a1 H nx k → Ans Tryz.prog 3 [a0, a1] H nx k := specA [(24, [63]), (30, [89]), (38, [127])] [[8], [11], [17]] [.one (.tst (.one .nil) (.one .nil)), .one (.tst (.one .nil) (.one .nil)), .one (.tst (.one (.tst (.tst (.tst (.one (.one (.one .nil))) (.one (.one (.one .nil)))) (.one (.one (.one (.one .nil))))) (.one (.one (.one (.one (.one .nil))))))) (.one (.one (.tst (.tst (.one (.one (.one .nil))) (.one (.one (.one .nil)))) (.one (.one (.one (.one .nil))))))))]
theorem spec8 : F8 a0 H nx k → Ans Tryz.prog 8 [a0] H nx k := specA [] [] []
theorem spec26 : F26 a0 H nx k → Ans Tryz.prog 26 [a0] H nx k := specA [] [] []
end
end Go.Proofs.YtbmiedinclieaaaGreatDoor

namespace Go.Proofs.YtbmiedinclieaaaGreatDoor
open Go.Clo
set_option maxRecDepth 100000
section
variable (a0 a1 : Value) (H : Heap) (nx : Nat) (k : EP)
noncomputable def F7 : Prop :=
 wBox a0 H nx fun b c d =>
 wAl [.bool false, .int .i64 0, .pointer none, .pointer none, .pointer none, .int .i64 0, .int .i64 0, .pointer none, .pointer none, .pointer none, .int .i64 0, .int .i64 0, .int .i64 0, .int .u64 0, .int .u64 0, .int .u64 0, .int .i64 0, .int .i64 0, .int .i64 0, .map none, .map none, .slice none 0 0, .map none, .int .i64 0] c d fun c d e =>
 wFld b 0 fun f =>
 wFl f 0 d fun _ f =>
 wUn .not f fun f =>
 wIf f (
 wLd b (some 24) d fun b =>
 wSt c b 24 d fun b =>
 wLd c (some 24) b fun c =>
 Rt (.tuple ⟨[c, (.int .i64 30)]⟩) b e k) (
 wFls b 6 16 d fun _ f =>
 wCall Tryz.prog 30 [f, a1] d e fun d e f =>
 wExt d 0 fun g =>
 wExt d 1 fun d =>
 wAl [.int .i64 0, .pointer none, .pointer none, .pointer none, .int .i64 0, .int .i64 0, .int .i64 0, .int .u64 0, .int .u64 0, .int .u64 0, .int .i64 0, .int .i64 0, .int .i64 0, .map none, .map none, .slice none 0 0] e f fun e f h =>
 wSt e g 16 f fun f =>
 wBin .neq d i0 fun g =>
 wIf g (
 wLd b (some 24) f fun b =>
 wSt c b 24 f fun b =>
 wLd c (some 24) b fun c =>
 Rt (.tuple ⟨[c, d]⟩) b h k) (
 wFls b 22 2 f fun _ d =>
 wAl [.map none, .int .i64 0] f h fun f g h =>
 wSt f d 2 g fun d =>
 wJoin (fun b =>
 wLd f (some 2) d fun c =>
 wCall Tryz.prog 31 [c] d h fun c d e =>
 wLen c 0 d fun c =>
 wBin .geq c (.int .i64 64) fun c =>
 wIf c (
 wLd f (some 2) d fun c =>
 wCall Tryz.prog 32 [c] d e fun c d e =>
 wExt c 0 fun g =>
 wExt c 1 fun _ =>
 wSt f g 2 d fun c =>
 b [] c e) (
 b [] d e)) (fun _ d g =>
 wLd f (some 2) d fun h =>
 wCall Tryz.prog 33 [h, a1] d g fun d g h =>
 wExt d 0 fun i =>
 wExt d 1 fun _ =>
 wExt d 2 fun d =>
 wSt f i 2 g fun g =>
 wBin .neq d i0 fun i =>
 wIf i (
 wLd b (some 24) g fun b =>
 wSt c b 24 g fun b =>
 wLd c (some 24) b fun c =>
 Rt (.tuple ⟨[c, d]⟩) b h k) (
 wFls b 0 6 g fun _ b =>
 wLd e (some 16) g fun d =>
 wLd f (some 2) g fun e =>
 wBuild [.bool false, .int .i64 0, .pointer none, .pointer none, .pointer none, .int .i64 0, .int .i64 0, .pointer none, .pointer none, .pointer none, .int .i64 0, .int .i64 0, .int .i64 0, .int .u64 0, .int .u64 0, .int .u64 0, .int .i64 0, .int .i64 0, .int .i64 0, .map none, .map none, .slice none 0 0, .map none, .int .i64 0] [(0, 6), (6, 16), (22, 2)] [(0, b), (1, d), (2, e)] fun b =>
 wSt c b 24 g fun b =>
 wLd c (some 24) b fun c =>
 Rt (.tuple ⟨[c, i0]⟩) b h k))))
noncomputable def F10 : Prop :=
 wBox a0 H nx fun b c d =>
 wAl [.bool false, .int .i64 0, .pointer none, .pointer none, .pointer none, .int .i64 0, .int .i64 0, .pointer none, .pointer none, .pointer none, .int .i64 0, .int .i64 0, .int .i64 0, .int .u64 0, .int .u64 0, .int .u64 0, .int .i64 0, .int .i64 0, .int .i64 0, .map none, .map none, .slice none 0 0, .map none, .int .i64 0] c d fun c d e =>
 wFld b 0 fun f =>
 wFl f 0 d fun _ f =>
 wUn .not f fun f =>
 wIf f (
 wLd b (some 24) d fun b =>
 wSt c b 24 d fun b =>
 wLd c (some 24) b fun c =>
 Rt (.tuple ⟨[c, (.int .i64 30)]⟩) b e k) (
 wFls b 22 2 d fun _ f =>
 wCall Tryz.prog 34 [f, a1] d e fun d e f =>
 wExt d 0 fun g =>
 wExt d 1 fun d =>
 wAl [.map none, .int .i64 0] e f fun e f h =>
 wSt e g 2 f fun f =>
 wBin .neq d i0 fun g =>
 wIf g (
 wLd b (some 24) f fun b =>
 wSt c b 24 f fun b =>
 wLd c (some 24) b fun c =>
 Rt (.tuple ⟨[c, d]⟩) b h k) (
 wFls b 0 6 f fun _ d =>
 wFls b 6 16 f fun _ b =>
 wLd e (some 2) f fun e =>
 wBuild [.bool false, .int .i64 0, .pointer none, .pointer none, .pointer none, .int .i64 0, .int .i64 0, .pointer none, .pointer none, .pointer none, .int .i64 0, .int .i64 0, .int .i64 0, .int .u64 0, .int .u64 0, .int .u64 0, .int .i64 0, .int .i64 0, .int .i64 0, .map none, .map none, .slice none 0 0, .map none, .int .i64 0] [(0, 6), (6, 16), (22, 2)] [(0, d), (1, b), (2, e)] fun b =>
 wSt c b 24 f fun b =>
 wLd c (some 24) b fun c =>
 Rt (.tuple ⟨[c, i0]⟩) b h k))
noncomputable def F12 : Prop :=
 wBox a0 H nx fun b c d =>
 wAl [.map none] c d fun c d e =>
 wFld b 0 fun f =>
 wFl f 0 d fun _ f =>
 wUn .not f fun f =>
 wIf f (
 wBuild [.map none] [(0, 1)] [] fun b =>
 wSt c b 1 d fun b =>
 wLd c (some 1) b fun c =>
 Rt (.tuple ⟨[c, (.int .i64 30)]⟩) b e k) (
 wFls b 22 2 d fun _ b =>
 wCall Tryz.prog 35 [b, a1] d e fun b d e =>
 wExt b 0 fun f =>
 wExt b 1 fun b =>
 wAl [.map none] d e fun d e g =>
 wSt d f 1 e fun e =>
 wBin .neq b i0 fun f =>
 wIf f (
 wBuild [.map none] [(0, 1)] [] fun d =>
 wSt c d 1 e fun d =>
 wLd c (some 1) d fun c =>
 Rt (.tuple ⟨[c, b]⟩) d g k) (
 wLd d (some 1) e fun b =>
 wSt c b 1 e fun b =>
 wLd c (some 1) b fun c =>
 Rt (.tuple ⟨[c, i0]⟩) b g k))
noncomputable def F15 : Prop :=
 wBox a0 H nx fun b c d =>
 wFld b 0 fun e =>
 wFl e 0 c fun _ e =>
 wUn .not e fun e =>
 wIf e (
 Rt i0 c d k) (
 wFls b 22 2 c fun _ b =>
 wCall Tryz.prog 37 [b] c d fun b c d =>
 Rt b c d k)
variable {a0 a1 H nx k}
theorem spec7 : F7 a0 a1 H nx k → Ans Tryz.prog 7 [a0, a1] H nx k := specA [(9, [])] [] []
theorem spec10 : F10 a0 a1 H nx k → Ans Tryz.prog 10 [a0, a1] H nx k := specA [] [] []
theorem spec12 : F12 a0 a1 H nx k → Ans Tryz.prog 12 [a0, a1] H nx k := specA [] [] []
theorem spec15 : F15 a0 H nx k → Ans Tryz.prog 15 [a0] H nx k := specA [] [] []
end
end Go.Proofs.YtbmiedinclieaaaGreatDoor

namespace Go.Proofs.YtbmiedinclieaaaGreatDoor
open Go.Clo
set_option maxRecDepth 100000
section
variable (a0 : Value) (H : Heap) (nx : Nat) (k : EP)
noncomputable def F158 : Prop :=
 wLen a0 0 H fun b =>
 wLoop (fun c d e f =>
 wBin .lss d.b b fun b =>
 wIf b (
 wIx a0 d.b e fun _ b =>
 wConv .u64 b fun b =>
 wBin .mul (.int .i64 8) d.b fun g =>
 wBin .shl b g fun b =>
 wBin .or d.a b fun b =>
 wBin .add d.b i1 fun d =>
 c [b, d] e f) (
 Rt d.a e f k)) [(.int .u64 0), i0] H nx
variable {a0 H nx k}
theorem spec158 : F158 a0 H nx k → Ans Tryz.prog 158 [a0] H nx k := specA [] [[3, 7]] []
end
end Go.Proofs.YtbmiedinclieaaaGreatDoor
