/-
  MADE BY PROGRAM (wip/gen/gen.py): functions 6 7 9 12 13 22 11 as marked code, and their claims written out.
-/
import Derived.Test.YtchmiblahedkcaaGreatDoorB10
import Derived.KernelRfl
set_option linter.all false
namespace Go.Proofs.YtchmiblahedkcaaGreatDoor
open Go.Clo
set_option maxRecDepth 100000
section
variable (a0 a1 : Value) (H : Heap) (nx : Nat) (k : EP)
noncomputable def F6 : Prop :=
 wBox a0 H nx fun b c d =>
 wAl [.map none, .map none] c d fun c d e =>
 wLd b (some 1) d fun b =>
 wBuild [.map none, .map none] [(0, 1), (1, 1)] [(0, b)] fun b =>
 wSt c b 2 d fun b =>
 wLd c (some 2) b fun c =>
 Rt c b e k
noncomputable def F7 : Prop :=
 wLoop (fun b c d e =>
 wLen a0 0 d fun f =>
 wBin .lss c.a f fun f =>
 wIf f (
 wIx a0 c.a d fun _ f =>
 wBin .eql f a1 fun f =>
 wIf f (
 Rt bT d e k) (
 wBin .add c.a i1 fun c =>
 b [c] d e)) (
 Rt bF d e k)) [i0] H nx
noncomputable def F9 : Prop :=
 wLoop (fun b c d e =>
 wLen a0 0 d fun f =>
 wBin .lss c.b f fun f =>
 wIf f (
 wJoin (fun b =>
 wIx a0 c.b d fun _ f =>
 wBin .neq f a1 fun f =>
 wIf f (
 wIx a0 c.b d fun _ f =>
 wBsl 1 1 [.string ⟨#[]⟩] [(0, f)] d e fun d e f =>
 wApp c.a d 1 16 e f fun c d e =>
 b [c] d e) (
 b [c.a] d e)) (fun d e f =>
 wBin .add c.b i1 fun c =>
 b [d.a, c] e f)) (
 Rt c.a d e k)) [(.slice none 0 0), i0] H nx
noncomputable def F12 : Prop :=
 wLoop (fun b c d e =>
 wJoin (fun b =>
 wLen a0 0 d fun f =>
 wBin .lss c.a f fun f =>
 wGuard true f (
 wIx a0 c.a d fun _ c =>
 wBin .lss c a1 fun c =>
 b [c] d e) (
 b [bF] d e)) (fun d e f =>
 wIf d.a (
 wBin .add c.a i1 fun c =>
 b [c] e f) (
 wBsl 0 1 [.string ⟨#[]⟩] [] e f fun b d e =>
 wSl a0 1 none (some c.a) none d fun f =>
 wApp b f 1 16 d e fun b d e =>
 wBsl 1 1 [.string ⟨#[]⟩] [(0, a1)] d e fun d e f =>
 wApp b d 1 16 e f fun b d e =>
 wSl a0 1 (some c.a) none none d fun c =>
 wApp b c 1 16 d e fun b c d =>
 Rt b c d k))) [i0] H nx
noncomputable def F13 : Prop :=
 wLen a0 0 H fun b =>
 wLen a1 0 H fun c =>
 wBin .neq b c fun b =>
 wIf b (
 Rt bF H nx k) (
 wLoop (fun b c d e =>
 wLen a0 0 d fun f =>
 wBin .lss c.a f fun f =>
 wIf f (
 forceN (e + 9) fun e =>
 wIx a0 c.a d fun f g =>
 wIx a1 c.a d fun h i =>
 wBin .neq g i fun j =>
 wK ((tB (cE h none d i)) ∧ (tB (tB (cE f none d g)))) (
 wIf j (
 Rt bF d e k) (
 wBin .add c.a i1 fun c =>
 b [c] d e))) (
 Rt bT d e k)) [i0] H nx)
noncomputable def F22 : Prop :=
 wBox a0 H nx fun b c d =>
 dMmap none <| wNew (.map [] 0) .map c d fun c d e =>
 wFl b 1 d fun _ b =>
 wCall Tryz.prog 34 [c, b] d e fun _ b d =>
 Rt c b d k
noncomputable def F11 : Prop :=
 wJoin (fun b =>
 wBin .eql a0 (.string ⟨#[]⟩) fun c =>
 wGuard false c (
 wLen a0 1 H fun c =>
 wBin .gtr c (.int .i64 16) fun c =>
 b [c] H nx) (
 b [bT] H nx)) (fun b c d =>
 wIf b.a (
 Rt bF c d k) (
 wLen a0 1 c fun b =>
 wLoop (fun c d e f =>
 wBin .lss d.a b fun b =>
 wIf b (
 wVf .sidx [a0, d.a] fun b =>
 wJoin (fun c =>
 wBin .geq b (.int .u8 97) fun d =>
 wGuard true d (
 wBin .leq b (.int .u8 122) fun d =>
 wGuard false d (
 wBin .geq b (.int .u8 65) fun d =>
 wGuard true d (
 wBin .leq b (.int .u8 90) fun b =>
 c [b] e f) (
 c [bF] e f)) (
 c [bT] e f)) (
 wBin .geq b (.int .u8 65) fun d =>
 wGuard true d (
 wBin .leq b (.int .u8 90) fun b =>
 c [b] e f) (
 c [bF] e f))) (fun e f g =>
 wJoin (fun c =>
 wUn .not e.a fun e =>
 wGuard true e (
 wBin .eql d.a i0 fun d =>
 wGuard false d (
 wBin .neq b (.int .u8 95) fun d =>
 wGuard true d (
 wBin .lss b (.int .u8 48) fun d =>
 wGuard false d (
 wBin .gtr b (.int .u8 57) fun b =>
 c [b] f g) (
 c [bT] f g)) (
 c [bF] f g)) (
 c [bT] f g)) (
 c [bF] f g)) (fun b e f =>
 wIf b.a (
 Rt bF e f k) (
 wBin .add d.a i1 fun b =>
 c [b] e f)))) (
 Rt bT e f k)) [i0] c d))
variable {a0 a1 H nx k}
theorem spec6 : F6 a0 H nx k → Ans Tryz.prog 6 [a0] H nx k := specA [] [] []
theorem spec7 : F7 a0 a1 H nx k → Ans Tryz.prog 7 [a0, a1] H nx k := specA [] [[5]] []
theorem spec9 : F9 a0 a1 H nx k → Ans Tryz.prog 9 [a0, a1] H nx k := specA [(6, [5])] [[5, 6]] []
theorem spec12 : F12 a0 a1 H nx k → Ans Tryz.prog 12 [a0, a1] H nx k := specA [(4, [18])] [[5]] [.one (.tst (.one .nil) (.one .nil))]
theorem spec13 : F13 a0 a1 H nx k → Ans Tryz.prog 13 [a0, a1] H nx k := specA [] [[5]] []
theorem spec22 : F22 a0 H nx k → Ans Tryz.prog 22 [a0] H nx k := specA [] [] []
theorem spec11 : F11 a0 H nx k → Ans Tryz.prog 11 [a0] H nx k := specA [(2, [12]), (11, [5]), (12, [52])] [[15]] [.one (.tst (.one .nil) (.one .nil)), .one (.tst (.one (.tst (.tst (.one (.one .nil)) (.one (.one .nil))) (.one (.one (.one .nil))))) (.one (.one (.tst (.one (.one .nil)) (.one (.one .nil)))))), .one (.tst (.tst (.tst (.tst (.one (.one (.one (.one .nil)))) (.one (.one (.one (.one .nil))))) (.one (.one (.one (.one (.one .nil)))))) (.one (.one (.one (.one (.one (.one .nil))))))) (.one (.one (.one (.one (.one (.one (.one .nil))))))))]
end
end Go.Proofs.YtchmiblahedkcaaGreatDoor
