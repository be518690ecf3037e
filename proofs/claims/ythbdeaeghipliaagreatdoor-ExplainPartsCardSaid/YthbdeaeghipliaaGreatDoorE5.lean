/-
  The executor as a claim: above the first free name there is nothing;a call beside blocks that it does not know.
  MADE BY PROGRAM (wip/gen/gen.py): functions 15 7 as marked code,and their claims written out.
  Contracts: the program's ParseVerdict (a map from names to indices;a loop over the parts).
  Plain: a text that is printed says what was printed,and the other way;slices.Equal over numbers.
  The example of the chapter (awake).
  Contract: the law ExplainRefusals,given its Great.
  Contract: the law ExplainRefusals.
  Contract: the law ExplainParts.
-/
import Derived.Test.YthbdeaeghipliaaGreatDoorE2
import Derived.Test.YthbdeaeghipliaaGreatDoorE3
import Derived.KernelRfl
import Derived.Test.YthbdeaeghipliaaGreatDoorE4
set_option maxHeartbeats 8000000
set_option maxRecDepth 100000
set_option linter.all false
noncomputable section
open ByteArray renaming data_append->cZ,size_append->aA
open Go.ByteArray renaming toList_eq->bB
open Go.Instr renaming findNow->dP
open Go.Lib renaming joinTail->bP
open Go.Proofs.Tryz renaming prog->gQ
open Go.Value renaming string->aB
open List renaming append_nil->gV,ext_getElem?->dH,getD_eq_getElem?_getD->aP,getElem?_drop->dB,getElem?_eq_getElem->aE,getElem?_eq_none->aT,getElem?_eq_some_iff->aJ,getElem?_take->aX,length_append->bH,length_cons->cV,length_take->cK,map_cons->aC,mem_append->dN,mem_cons->aU,mem_cons_of_mem->eJ,mem_map->gN,mem_of_getElem?->aH,mem_range->cW,mem_singleton->dJ,pairwise_iff_getElem->fD,range->aY,take_of_length_le->gJ
open Nat renaming add_mul->dM,eq_zero_or_pos->cI,le_refl->aD,le_trans->bK,lt_of_lt_of_le->aO,lt_or_ge->aW,zero_add->cF,zero_le->aL
open Option renaming elim_some->aN,map_eq_some_iff->bU
namespace Go.Clo
section
variable {H:Y0} {P:Program} {Q k:EP} {args:List Value} {f:FuncId} {nx p q:Nat}
def Top(H:Y0)(nx:Nat):Prop:=∀ i,nx<=i->J0 H i=none
theorem M90(f:Nat->Option V3)(n:Nat):∃ H',(∀ i,i<n->J0 H' i=f i)/\Top H' n:=by
 induction n with
 | zero=>exact⟨.leaf,fun i hi=>O0,fun i _=>C40 i⟩
 | succ n ih=>
  obtain⟨H',h1,h2⟩:=ih;refine⟨hs H' n (f n),fun i hi => ?_,fun i hi => ?_⟩
  .rw[N7]
   by_cases e:i=n
   .rw[if_pos e,e]
   .rw[if_neg e];exact h1 i O0
  .rw[N7,if_neg O0];exact h2 i O0
theorem CS.beside{P:Program}{f:FuncId}{args:List Value}{E H:Y0}{nx:Nat}{v:Value}{H0:Y0}{nx':Nat}(h:CS P f args E nx v H0 nx')(B:∀ i b,J0 E i=some b->J0 H i=some b)(L:nx<=nx'){H2:Y0}(e:∀ i,i<nx'->J0 H2 i=if i<nx/\J0 E i=none/\(J0 H i).isSome=true then J0 H i else J0 H0 i)(ht:Top H2 nx'):CS P f args H nx v H2 nx':=by
 refine⟨h.1,fun F J w hr hv=>(h.2 F J w (hr.sub B) hv).mono fun ex w' => ?_⟩;rintro⟨v',F',h1,h2,h3⟩;refine⟨v',F',h1,h2,h3.beside hr (fun i b _=>B i b) fun i => ?_⟩;rcases aW i nx' with g | g
 .exact e i g
 .rw[ht i g,if_neg O0,h3.hr.top i g]
def Sub(E:Y0)(nx:Nat)(H:Y0):Prop:=∀ i b,i<nx->J0 E i=some b->J0 H i=some b
theorem G84{E:Y0}(B:∀ i b,J0 E i=some b->J0 H i=some b)(h:Q2 P f args E nx Q)(hQ:∀ v H0 nx',Q v H0 nx'->D0 E nx H0 nx')(hk:∀ v H' nx' H0,Q v H0 nx'->D0 H nx H' nx'->Sub H0 nx' H'->Top H' nx'->k v H' nx'):Y2 P f args H nx k:=by
 obtain⟨v,H0,nx',hc,hq⟩:=h;have hE:=hQ _ _ _ hq;obtain⟨H',h1,h2⟩:=M90 (fun i=>if i<nx/\J0 E i=none/\(J0 H i).isSome=true then J0 H i else J0 H0 i) nx';refine .inr ⟨v,H',nx',hc.beside B hE.le h1 h2,hk v H' nx' H0 hq ⟨hE.le,fun i hi => ?_⟩ (fun i b hi hb => ?_) h2⟩
 .rw[h1 i (aO hi hE.le)]
  split
  .rfl
  .rename_i hn
   rw[hE.get i hi]
   cases hg:J0 E i with
   | some b=>rw[B i b hg]
   | none=>
    cases J:J0 H i with
    | none=>rfl
    | some b=>exact absurd ⟨hi,hg,by rw[J];rfl⟩ hn
 .rw[h1 i hi,if_neg]
  .exact hb
  .rintro⟨g1,g2,_⟩
   rw[hE.get i g1,g2] at hb
   cases hb
def er2(H:Y0)(p q:Nat):Y0:=hs (hs H p none) q none
theorem U48{i:Nat}(hp:i≠p)(hq:i≠q):J0 (er2 H p q) i=J0 H i:=by unfold er2;rw[Z1 _ hq,Z1 _ hp]
theorem V79:J0 (er2 H p q) p=none:=by
 unfold er2;rw[N7]
 split
 .rfl
 .exact Z11 _ _ _
theorem X80:J0 (er2 H p q) q=none:=Z11 _ _ _
theorem V97:∀ i b,J0 (er2 H p q) i=some b->J0 H i=some b:=by
 intro i b h
 by_cases hp:i=p
 .rw[hp,V79] at h;cases h
 .by_cases hq:i=q
  .rw[hq,X80] at h;cases h
  .rwa [U48 hp hq] at h
theorem R76(hp:p<nx)(hq:q<nx)(h:Q2 P f args (er2 H p q) nx Q)(hQ:∀ v H0 nx',Q v H0 nx'->D0 (er2 H p q) nx H0 nx')(hk:∀ v H' nx' H0,Q v H0 nx'->D0 H nx H' nx'->Sub H0 nx' (er2 H' p q)->Top H' nx'->k v H' nx'):Y2 P f args H nx k:=by
 refine G84 V97 h hQ fun v H' nx' H0 B hE hS hT=>hk v H' nx' H0 B hE (fun i b hi hb => ?_) hT
 have E:=hQ _ _ _ B;have h1:i≠p:=by rintro rfl;rw[E.get i hp,V79] at hb;cases hb
 have h2:i≠q:=by rintro rfl;rw[E.get i hq,X80] at hb;cases hb
 rw[U48 h1 h2];exact hS i b hi hb
def R5(d:Nat):Value->Nat
 | .slice (some A) _ _=>A.block
 | _=>d
theorem E72{lo:Nat}{size bytes d:Nat}{v:Value}{n:Nat}{c:List Value}{x:Value}{m:Nat}{l:List Value}(O:0<size)(hA:J6 lo H nx size v n c)(hx:Clo.Src H size x m l)(hm:0<m)(ho:Z0 l=true)(E:(2*(n+m)+1000)*bytes<=281474976710656)(J:n+m<=1000000000)(hk:∀ H',J0 H' nx=some (.cells (c++l) size)->(∀ i,i≠nx->i≠R5 d v->J0 H' i=J0 H i)->k (.slice (some ⟨nx,0,none⟩) (n+m) (n+m)) H' (nx+1)):B5 v x size bytes H nx k:=by
 obtain⟨hl,hA⟩:=hA;have B:(c++l).length=(n+m)*size:=by rw[bH,hl,hx.size,dM]
 unfold B5 Z22;rcases hA with ⟨rfl,rfl⟩ | ⟨b,h1,h2,rfl,h4⟩
 .have hc:c=[]:=by simp at hl;exact hl
  subst hc;rw[hx.len];dsimp only;rw[G1,V6 E,V6 J];simp only[Bool.and_self,cond_true];rw[hx.first,ho,E27 (show 0<0+m by omega)];simp only[cond_true,cond_false];show spine ([]++l) _;rw[V14];have e:([]++l).length=(0+m)*size:=B;rw[e,D13];simp only[cond_true,D22,K11];rw[G1,G1,G4];exact hk _ (Z11 _ _ _) fun i hi _=>Z1 _ hi
 .rw[hx.len]
  dsimp only;rw[G1,V6 E,V6 J];simp only[Bool.and_self,cond_true];rw[hx.first,ho,E27 (show n<n+m by omega)];simp only[cond_true,cond_false];have L:∀ k:List Value->Prop,Z5 H size n (.slice (some ⟨b,0,none⟩) n n) False k=k c:=by
   intro k;rcases cI n with h0 | h0
   .subst h0
    simp at hl;subst hl;unfold Z5 B19;dsimp only;rw[Y4,h4];simp only[aN,Nat.zero_mul,G5];exact V14 _ _
   .exact(J9 h4 hl (Nat.mul_pos h0 O)).first k
  rw[L,V14,B,D13];simp only[cond_true,D22];rw[Y4,h4];simp only[aN];have R:N8 (.cells c size) 0 n size=some true:=by
   simp only[N8];rw[K43 (show size≠0 by omega),D13];simp only[cond_false,cond_true];rw[hl,cF,D13]
  rw[R];dsimp only;rw[G4];simp only[K11];rw[G1,G1,G4];exact hk _ (Z11 _ _ _) fun i hi M=>by rw[Z1 _ hi,Z1 _ (show i≠b from M)]
end
end Go.Clo
namespace Go.Proofs.YthbdeaeghipliaaGreatDoor
open Go.Clo
section
variable (a0 a1:Value) (H:Y0) (nx:Nat) (k:EP)
def F15:Prop:=
 Q4 [.int .i64 0,.slice none 0 0,.slice none 0 0] H nx fun b c d=>
 Y2 gQ 34 [a0] c d fun c d e=>
 D10 .neq c i0 fun f=>
 B0 f (
 U11 [.int .i64 0,.slice none 0 0,.slice none 0 0] [(0,1),(1,1),(2,1)] [] fun f=>
 D5 b f 3 d fun d=>
 J1 b (some 3) d fun b=>
 Rt (.tuple ⟨[b,c]⟩) d e k) (
 Y2 gQ 37 [a1,(.string ⟨#[32]⟩)] d e fun c d e=>
 M2 (e+6) fun e=>
 Y2 gQ 35 [] d e fun e f g=>
 U6 c i0 f fun h i=>
 Y2 gQ 38 [e,i] f g fun e g j=>
 wK (tB (tA ((cE h none f i)/\(tB (cE h none d i))))) (
 V4 (fun b=>
 D10 .lss e i0 fun d=>
 C1 false d (
 Y2 gQ 39 [c,(.string ⟨#[]⟩)] g j fun c d e=>
 b [c] d e) (
 b [bT] g j)) (fun d f g=>
 B0 d.a (
 U11 [.int .i64 0,.slice none 0 0,.slice none 0 0] [(0,1),(1,1),(2,1)] [] fun c=>
 D5 b c 3 f fun c=>
 J1 b (some 3) c fun b=>
 Rt (.tuple ⟨[b,(.int .i64 15)]⟩) c g k) (
 M64 none <| J3 (.map [] 0) .map f g fun d f g=>
 Q4 [.map none] f g fun f g h=>
 D5 f d 1 g fun d=>
 R4 a0 0 d fun g=>
 G3 (fun d h i j=>
 D10 .lss h.a g fun g=>
 B0 g (
 U6 a0 h.a i fun _ b=>
 J1 f none i fun c=>
 W56 .string c b h.a i j fun _ b c=>
 D10 .add h.a i1 fun e=>
 d [e] b c) (
 D24 0 1 [.int .i64 0] [] i j fun d g h=>
 U5 c 1 (some i1) none none g fun c=>
 R4 c 0 g fun i=>
 G3 (fun d g h j=>
 D10 .lss g.b i fun i=>
 B0 i (
 U6 c g.b h fun _ c=>
 M33 gQ (.func (.func 40) ⟨[]⟩ ⟨[f]⟩) [c] h j fun c e f=>
 G9 c 0 fun h=>
 G9 c 1 fun c=>
 C5 .not c fun c=>
 B0 c (
 U11 [.int .i64 0,.slice none 0 0,.slice none 0 0] [(0,1),(1,1),(2,1)] [] fun c=>
 D5 b c 3 e fun c=>
 J1 b (some 3) c fun b=>
 Rt (.tuple ⟨[b,(.int .i64 7)]⟩) c f k) (
 D24 1 1 [.int .i64 0] [(0,h)] e f fun b c e=>
 B5 g.a b 1 8 c e fun b c e=>
 D10 .add g.b i1 fun f=>
 d [b,f] c e)) (
 D10 .eql e i0 fun c=>
 B0 c (
 U11 [.int .i64 0,.slice none 0 0,.slice none 0 0] [(0,1),(1,1),(2,1)] [(0,e),(1,g.a)] fun c=>
 D5 b c 3 h fun c=>
 J1 b (some 3) c fun b=>
 Rt (.tuple ⟨[b,i0]⟩) c j k) (
 U11 [.int .i64 0,.slice none 0 0,.slice none 0 0] [(0,1),(1,1),(2,1)] [(0,e),(2,g.a)] fun c=>
 D5 b c 3 h fun c=>
 J1 b (some 3) c fun b=>
 Rt (.tuple ⟨[b,i0]⟩) c j k))) [d,i0] g h)) [i0] d h))))
def F7:Prop:=
 D24 3 1 [.string ⟨#[]⟩] [(0,(.string ⟨#[120]⟩)),(1,(.string ⟨#[121]⟩)),(2,(.string ⟨#[122]⟩))] H nx fun b c d=>
 D24 3 1 [.int .i64 0] [(0,i0),(1,i1),(2,(.int .i64 2))] c d fun c d e=>
 U11 [.int .i64 0,.slice none 0 0,.slice none 0 0] [(0,1),(1,1),(2,1)] [(0,(.int .i64 3)),(2,c)] fun c=>
 Y2 gQ 14 [b,c] d e fun c d e=>
 G9 c 0 fun f=>
 G9 c 1 fun c=>
 U11 [.int .i64 0,.slice none 0 0,.slice none 0 0] [(0,1),(1,1),(2,1)] [] fun g=>
 Y2 gQ 14 [b,g] d e fun d e g=>
 G9 d 0 fun h=>
 G9 d 1 fun d=>
 Y2 gQ 15 [b,(.string ⟨#[112,97,116,104,32,122,32,120]⟩)] e g fun b e g=>
 G9 b 0 fun i=>
 G9 b 1 fun b=>
 Q4 [.int .i64 0,.slice none 0 0,.slice none 0 0] e g fun e g j=>
 D5 e i 3 g fun g=>
 D10 .eql c i0 fun c=>
 C1 true c (
 D10 .eql d i0 fun c=>
 C1 true c (
 D10 .eql b i0 fun b=>
 C1 true b (
 D10 .eql f (.string ⟨#[116,114,105,111,32,120,32,121,32,122]⟩) fun b=>
 C1 true b (
 D10 .eql h (.string ⟨#[97,99,99,101,112,116,101,100]⟩) fun b=>
 C1 true b (
 K7 e 0 g fun _ b=>
 D10 .eql b (.int .i64 2) fun b=>
 C1 true b (
 K7 e 2 g fun _ b=>
 D24 2 1 [.int .i64 0] [(0,(.int .i64 2)),(1,i0)] g j fun c d f=>
 Y2 gQ 16 [b,c] d f fun b c d=>
 C1 true b (
 K7 e 1 c fun _ b=>
 R4 b 0 c fun b=>
 D10 .eql b i0 fun b=>
 Rt b c d k) (
 Rt bF c d k)) (
 Rt bF g j k)) (
 Rt bF g j k)) (
 Rt bF g j k)) (
 Rt bF g j k)) (
 Rt bF g j k)) (
 Rt bF g j k)
variable {a0 a1 H nx k}
theorem spec15:F15 a0 a1 H nx k->Q2 gQ 15 [a0,a1] H nx k:=Q12 [(8,[36])] [[41],[13,55]] [.one (.tst (.one .nil) (.one .nil))]
theorem spec7:F7 H nx k->Q2 gQ 7 [] H nx k:=Q12 [] [] [.one (.tst (.one (.tst (.one (.tst (.one (.tst (.one (.tst (.one (.tst (.one (.tst (.one .nil) (.one .nil))) (.one (.one (.one .nil))))) (.one (.one (.one (.one (.one .nil))))))) (.one (.one (.one (.one (.one (.one (.one .nil))))))))) (.one (.one (.one (.one (.one (.one (.one (.one (.one .nil))))))))))) (.one (.one (.one (.one (.one (.one (.one (.one (.one (.one (.one .nil))))))))))))) (.one (.one (.one (.one (.one (.one (.one (.one (.one (.one (.one (.one (.one .nil))))))))))))))]
end
section
variable {H:Y0} {clock i j r:Nat} {es:List MapEntry} {s:ByteArray} {v z:Value} {vs:List ByteArray}
theorem K131(h:B7 vs=0):vs.Nodup:=by
 unfold B7 at h
 split at h
 .cases h
 .split at h
  .assumption
  .cases h
def K24(vs:List ByteArray)(j:Nat):MapEntry:={ key := .string (vs.getD j V5),val := .int .i64 (j:Int),born:=j }
def C7(vs:List ByteArray)(i:Nat):List MapEntry:=(aY i).map (K24 vs)
theorem C146(h:j<i):(C7 vs i)[j]? = some (K24 vs j):=by simp[C7,h]
theorem Z147{vs:List ByteArray}{i:Nat}:∀ x ∈ C7 vs i,MapKept.IsKey .string x.key:=by
 intro x hx;obtain⟨j,_,rfl⟩:=gN.1 hx
 trivial
theorem Q136(vs:List ByteArray)(i:Nat)(s:ByteArray):(dP .string (.string s) (C7 vs i) 0=some none/\∀ j,j<i->vs.getD j V5≠s)\/∃ j,j<i/\dP .string (.string s) (C7 vs i) 0=some (some (j,O8 (j:Int)))/\vs.getD j V5=s:=by
 rcases MapKept.findNow_spec (d := .string) (k := .string s) trivial (C7 vs i) 0 Z147 with ⟨h1,h2⟩ | ⟨j,e,h1,h2,h3⟩
 .exact .inl ⟨h1,fun j hj e=>h2 (K24 vs j) (gN.2 ⟨j,cW.2 hj,rfl⟩) (congrArg aB e)⟩
 .have hj:j<i:=by have:=(aJ.1 h2).1;simpa [C7] using this
  rw[C146 hj] at h2
  cases h2
  refine .inr ⟨j,hj,by simpa [K24] using h1,?_⟩;have B:aB (vs.getD j V5)=aB s:=h3;injection B
theorem M142{z:ByteArray}(h:vs[i]? = some z):C7 vs i++[{ key := .string z,val:=O8 (i:Int),born:=i }]=C7 vs (i+1):=by
 simp[C7,List.range_succ,K24,h]
theorem N143{nx:Nat}(hg:J0 H r=some (.map es clock))(hf:dP .string (.string s) es 0=some none)(k:EP):
  W56 .string (.map (some r)) (.string s) v H nx k=k undef (hs H r (some (.map (es++[{ key := .string s,val:=v,born:=clock }]) (clock+1)))) nx:=by
 unfold W56;dsimp only;rw[Y4,hg];simp only[aN,G52];rw[show Q9 .string (.string s)=true from rfl,hf];simp only[cond_true];rw[V14,G1,G4]
theorem V143(hg:J0 H r=some (.map es clock))(hf:dP .string (.string s) es 0=some (some (i,v)))(k:VP):wLk .string z (.map (some r)) (.string s) true H k=k (.tuple ⟨[v,.bool true]⟩):=by
 unfold wLk;rw[show Q9 .string (.string s)=true from rfl];simp only[cond_true];rw[Y4,hg];simp only[aN,hf]
theorem J142(hg:J0 H r=some (.map es clock))(hf:dP .string (.string s) es 0=some none)(k:VP):wLk .string z (.map (some r)) (.string s) true H k=k (.tuple ⟨[z,.bool false]⟩):=by
 unfold wLk;rw[show Q9 .string (.string s)=true from rfl];simp only[cond_true];rw[Y4,hg];simp only[aN,hf]
theorem getD_some(h:j<vs.length):vs[j]? = some (vs.getD j V5):=by
 rw[aP,aE h];rfl
theorem U142{vs:List ByteArray}(hn:vs.Nodup)(s:ByteArray):(dP .string (.string s) (C7 vs vs.length) 0=some none/\J12 vs s<0)\/∃ j,dP .string (.string s) (C7 vs vs.length) 0=some (some (j,O8 (J12 vs s)))/\0<=J12 vs s:=by
 rcases Q136 vs vs.length s with ⟨h1,h2⟩ | ⟨j,hj,h1,h2⟩
 .refine .inl ⟨h1,?_⟩
  rw[M124];intro h;obtain⟨j,hj⟩:=List.mem_iff_getElem?.1 h;have E:=(aJ.1 hj).1;refine h2 j E ?_;rw[getD_some E] at hj;injection hj
 .have e:J12 vs s=j:=by
   refine K126 (by rw[getD_some hj,h2]) fun k t hk ht he => ?_
   subst he;have B:k<vs.length:=O0;have:=fD.1 hn k j B hj hk;apply this;have a1:vs[k]? = some vs[k]:=aE B;have a2:vs[j]? = some vs[j]:=aE hj;rw[ht] at a1;rw[getD_some hj,h2] at a2;injection a1 with a1;injection a2 with a2;rw[<- a1,<- a2]
  exact .inr ⟨j,by rw[e];exact h1,O0⟩
theorem Q144(q r c:Nat)(s:ByteArray)(vs:List ByteArray)(H:Y0)(nx:Nat)(hn:vs.Nodup)(hq:J0 H q=O7 [.map (some r)])(hr:J0 H r=some (.map (C7 vs vs.length) c)):
  Q2 gQ 40 [.string s,.pointer (some ⟨q,0,none⟩)] H nx fun v H' nx'=>(J12 vs s<0 -> .tuple ⟨[O8 0,.bool false]⟩=v)/\(0<=J12 vs s -> .tuple ⟨[O8 (J12 vs s),.bool true]⟩=v)/\H=H'/\nx=nx':=by
 refine spec40 ?_;unfold F40;rcases U142 hn s with ⟨h1,h2⟩ | ⟨j,h1,h2⟩
 .simp(disch:=try exact O3)only[W0,hq,J142 hr h1]
  exact⟨fun _=>trivial,fun h=>O0⟩
 .simp(disch:=try exact O3)only[W0,hq,V143 hr h1]
  exact⟨fun h=>O0,fun _=>trivial⟩
theorem N123(k:VP):U11 [O8 0,O6,O6] [(0,1),(1,1),(2,1)] [] k=k (.agg ⟨[O8 0,O6,O6]⟩):=V14 _ _
theorem K142(x:Int)(A:Option Addr)(n c:Nat)(k:VP):U11 [O8 0,O6,O6] [(0,1),(1,1),(2,1)] [(0,O8 x),(1,.slice A n c)] k=k (.agg ⟨[O8 x,.slice A n c,O6]⟩):=V14 _ _
theorem K136(x:Int)(A:Option Addr)(n c:Nat)(k:VP):U11 [O8 0,O6,O6] [(0,1),(1,1),(2,1)] [(0,O8 x),(2,.slice A n c)] k=k (.agg ⟨[O8 x,O6,.slice A n c]⟩):=V14 _ _
theorem V139(k:Prop):M64 none k=k:=rfl
theorem Q140(a x:Value):B12 [a] 0 [x]=[x]:=rfl
theorem M145{b n:Nat}{c:List Value}(hg:J0 H b=O7 c)(hl:1<=n)(k:VP):U5 (.slice (some ⟨b,0,none⟩) n n) 1 (some (O8 1)) none none H k=k (.slice (some ⟨b,if n=1 then 0 else 1,none⟩) (n-1) (n-1)):=by
 by_cases h:n=1
 .subst h
  unfold U5;dsimp only;rw[Y4,hg];simp only[aN,slB];rw[show N8 (.cells c 0) 0 1 1=some false from rfl];exact E7 _ _
 .rw[if_neg h]
  exact U136 (l:=1) hg O0 (.inl rfl) k
def VOK(lo:Nat)(H:Y0)(nx:Nat)(kind:Int)(l:List Int)(P W:Value):Prop:=
 (kind=0->E23 lo H nx P (U4 l)/\W = .slice none 0 0)/\(kind≠0->E23 lo H nx W (U4 l)/\P = .slice none 0 0)
theorem VOK.nil(lo:Nat)(H:Y0)(nx:Nat):VOK lo H nx 0 [] O6 O6:=⟨fun _=>⟨E23.zero _ _ _,rfl⟩,fun h=>absurd rfl h⟩
theorem Q146(A:Option Addr)(vs:List ByteArray)(s:ByteArray)(cap:Nat)(H:Y0)(nx:Nat)(hS:Sl H nx A (N0 vs))(b7:U9 H nx A)(hcap:A=none->cap=0)(hv:N39 vs)(bc:vs.length<=1000)(hs:s.size<=100000):
  Q2 gQ 15 [.slice A vs.length cap,.string s] H nx fun r H' nx'=>(∃ P W,r = .tuple ⟨[.agg ⟨[.int .i64 (B57 vs s).1,P,W]⟩,.int .i64 (B57 vs s).2.2]⟩/\VOK nx H' nx' (B57 vs s).1 (B57 vs s).2.1 P W)/\D0 H nx H' nx':=by
 refine spec15 ?_;unfold F15;have hX:D0 H nx (Go.Clo.hs H nx (some (.cells [.int .i64 0,.slice none 0 0,.slice none 0 0] 0))) (nx+1):=(D0.refl H nx).new _ (aD _) O0;have b0:J0 (Go.Clo.hs H nx (some (.cells [.int .i64 0,.slice none 0 0,.slice none 0 0] 0))) nx=some (.cells [.int .i64 0,.slice none 0 0,.slice none 0 0] 0):=Z11 _ _ _;simp(disch:=try exact O3)only[W0,Q0.val];generalize Go.Clo.hs H nx (some (.cells [.int .i64 0,.slice none 0 0,.slice none 0 0] 0))=H1 at hX b0 ⊢;refine R0 (X142 A vs cap H1 (nx+1) (hS.ext hX) (b7.ext hX) hcap hv bc) ?_;rintro _ H2 n2 ⟨rfl,ag⟩;have bk:=ag.le;have af:=hX.trans ag;have aw:J0 H2 nx=some (.cells [.int .i64 0,.slice none 0 0,.slice none 0 0] 0):=by rw[ag.get nx O0];exact b0
 by_cases h0:B7 vs=0
 .have d:decide (B7 vs≠0)=false:=by simp[h0]
  have ao:=K131 h0;simp(disch:=try exact O3)only[W0,d];refine R0 (M147 s H2 n2 hs) ?_;rintro _ H4 _ ⟨rfl,b4,rfl,b1⟩;have ax:=af.trans b1;have bg:=E131 s;have bf:=Y142 s;obtain⟨p0,tl,hp⟩:=C139 s;have ay:(C2 s).length=tl.length+1:=by rw[hp];rfl
  have b2:(C2 s)[0]? = some p0:=by rw[hp];rfl
  have a8:(C2 s).headD V5=p0:=by rw[hp];rfl
  have al:(C2 s).tail=tl:=by rw[hp];rfl
  simp(disch:=try exact O3)only[W0];refine R0 (D137 H4 (n2+1+6)) ?_;rintro _ _ _ ⟨rfl,rfl,rfl⟩;have Z:D0 H4 (n2+1) (Go.Clo.hs H4 (n2+1+6) (some (.cells (N0 C4) 0))) (n2+1+6+1):=(D0.refl _ _).new _ O0 O0;have hw:Sl (Go.Clo.hs H4 (n2+1+6) (some (.cells (N0 C4) 0))) (n2+1+6+1) (some ⟨n2+1+6,0,none⟩) (N0 C4):=fun i u hu=>⟨n2+1+6,0,N0 C4,rfl,Nat.lt_succ_self _,by simp[Q5,Z11,V3.row],by simpa using hu⟩
  have V:J0 (Go.Clo.hs H4 (n2+1+6) (some (.cells (N0 C4) 0))) n2=some (.cells (N0 (C2 s)) 0):=by rw[Z.get n2 O0];exact b4
  generalize Go.Clo.hs H4 (n2+1+6) (some (.cells (N0 C4) 0))=H6 at Z hw V ⊢;generalize hN:n2+1+6+1=N at Z hw ⊢;have a6:=ax.trans Z;have am:J0 H6 nx=some (.cells [.int .i64 0,.slice none 0 0,.slice none 0 0] 0):=by rw[Z.get nx O0,b1.get nx O0];exact aw
  have b5:(0:Int)<((C2 s).length:Int):=O0;simp(disch:=try exact O3)only[W0,V,B6 b2];refine R0 (G138 _ C4 p0 4 H6 N hw (by decide)) ?_;rintro _ _ _ ⟨rfl,rfl,rfl⟩;simp(disch:=try exact O3)only[W0,b4,B6 b2]
  by_cases hk:J12 C4 p0<0
  .simp(disch:=try exact O3)only[W0,Z0,Nat.reduceAdd,N13,hk,N123,am,D7,Y12]
   rw[Q127 h0 (.inl (by rw[a8];exact hk))];exact⟨⟨_,_,rfl,VOK.nil _ _ _⟩,a6.hs (aD _)⟩
  refine N5 (fun L H' nx'=>L=[.bool (decide (0<=J12 (C2 s) V5))]/\H6=H'/\N=nx') ?_ ?_
  .intro j hj
   simp(disch:=try exact O3)only[W0,hk];refine R0 (C126 (some ⟨n2,0,none⟩) (C2 s) V5 (C2 s).length H6 N (fun i u hu=>⟨n2,0,N0 (C2 s),rfl,O0,by simp[Q5,V,V3.row],by simpa using hu⟩) O0) ?_;rintro _ _ _ ⟨rfl,rfl,rfl⟩;exact hj _ _ _ ⟨rfl,rfl,rfl⟩
  rintro _ _ _ ⟨rfl,rfl,rfl⟩
  by_cases a7:V5 ∈ C2 s
  .have de:decide (0<=J12 (C2 s) V5)=true:=by
    have:¬ J12 (C2 s) V5<0:=fun h=>M124.1 h a7
    simp;omega
   simp(disch:=try exact O3)only[W0,Z0,Nat.reduceAdd,de,N123,am,D7,Y12];rw[Q127 h0 (.inr a7)];exact⟨⟨_,_,rfl,VOK.nil _ _ _⟩,a6.hs (aD _)⟩
  have de:decide (0<=J12 (C2 s) V5)=false:=by
   have:=M124.2 a7;simp;omega
  have ai:¬ (J12 C4 ((C2 s).headD V5)<0\/V5 ∈ C2 s):=by
   rw[a8];exact fun h=>h.elim hk a7
  simp(disch:=try exact O3)only[W0,de,V139,Q140];refine B1 (fun m L H' nx'=>∃ i:Nat,m+i=vs.length/\L=[.int .i64 (i:Int)]/\J0 H' N=some (.map (C7 vs i) i)/\J0 H' (N+1)=some (.cells [.map (some N)] 0)/\D0 H6 N H' (N+1+1)/\N+1+1=nx') ?_ (m:=vs.length) ⟨0,O0,rfl,?_,Z11 _ _ _,?_,rfl⟩
  rotate_left
  .rw[Z1 _ O0,Z1 _ O0,Z11];rfl
  .exact((((D0.refl H6 N).new _ (aD _) O0).new _ O0 (Nat.le_succ _)).new _ O0 (aD _))
  rintro m ih L M _ ⟨i,hm,rfl,ad,a4,J,rfl⟩ bd;have a0:=a6.trans J;simp(disch:=try exact O3)only[W0]
  by_cases hi:i<vs.length
  .have aj:(i:Int)<(vs.length:Int):=O0
   obtain⟨b,o,row,rfl,hb,a1,a3⟩:=(hS.ext a0).open (i:=i) (by rw[W2];exact hi);have ah:vs[i]? = some vs[i]:=aE hi;generalize hz:vs[i]=z at ah;have hf:dP .string (.string z) (C7 vs i) 0=some none:=by
    rcases Q136 vs i z with ⟨h1,_⟩ | ⟨j,hj,_,h2⟩
    .exact h1
    .exfalso
     have ab:j<vs.length:=O0;have:=fD.1 ao j i ab hi hj;apply this;have a2:vs[j]? = some vs[j]:=aE ab;rw[getD_some ab,h2] at a2;injection a2 with a2;rw[hz,<- a2]
   simp(disch:=try exact O3)only[W0,aj,X3 a1,a3 _ _ (B6 ah),a4,N143 ad hf];exact bd (m-1) _ _ _ O0 ⟨i+1,O0,O2,by rw[Z11,M142 ah],by rw[Z1 _ O0];exact a4,J.hs (aD _),rfl⟩
  have aj:¬ (i:Int)<(vs.length:Int):=O0;have b6:i=vs.length:=O0;subst b6;have Y:D0 M (N+1+1) (Go.Clo.hs M (N+1+1) (some (.cells [] 0))) (N+1+1+1):=(D0.refl _ _).new _ (aD _) O0;have ae:J0 (Go.Clo.hs M (N+1+1) (some (.cells [] 0))) n2=some (.cells (N0 (C2 s)) 0):=by rw[Y.get n2 O0,J.get n2 O0];exact V
  have av:1<=(C2 s).length:=O0;have ar:J0 (Go.Clo.hs M (N+1+1) (some (.cells [] 0))) (N+1+1)=some (.cells [] 0):=Z11 _ _ _;simp(disch:=try exact O3)only[W0,aj,U21,M145 ae av];have b3:J0 M n2=some (.cells (N0 (C2 s)) 0):=by rw[J.get n2 O0];exact V
  have hT:Sl M (N+1+1) (some ⟨n2,if (C2 s).length=1 then 0 else 1,none⟩) (N0 tl):=fun j u hu=>by
   have ab:j<tl.length:=by
    have:=(aJ.1 hu).1;rwa [W2] at this
   refine⟨n2,1,N0 (C2 s),by rw[if_neg O0],O0,by simp[Q5,b3,V3.row],?_⟩;rw[hp,Nat.add_comm];simpa [N0] using hu
  rw[ay] at hT ⊢;simp only[Nat.add_sub_cancel];generalize (some (Addr.mk n2 (if tl.length+1=1 then 0 else 1) none))=B2 at hT ⊢;generalize Go.Clo.hs M (N+1+1) (some (.cells [] 0))=H16 at Y ae ar ⊢;refine B1 (fun m L H' nx'=>∃(k:Nat) (v:Value) (zs:List Int),m+k=tl.length/\L=[v,.int .i64 (k:Int)]/\R6 vs (tl.take k)=some zs/\E23 (N+1+1) H' nx' v (U4 zs)/\D0 M (N+1+1) H' nx') ?_ (m:=tl.length) ⟨0,_,[],O0,rfl,rfl,.inr ⟨rfl,N+1+1,aD _,O0,rfl,ar⟩,Y⟩;rintro m2 bl L2 a9 aa ⟨k,v,zs,bh,rfl,a5,R,E⟩ au;have Q:J0 a9 nx=some (.cells [.int .i64 0,.slice none 0 0,.slice none 0 0] 0):=by rw[E.get nx O0,J.get nx O0];exact am
  have O:=a0.trans E;simp(disch:=try exact O3)only[W0]
  by_cases aq:k<tl.length
  .have U:(k:Int)<(tl.length:Int):=O0
   have hx:tl[k]? = some tl[k]:=aE aq;generalize tl[k]=x at hx;have az:x ∈ tl:=aH hx;obtain⟨b,o,row,rfl,hb,a1,a3⟩:=(hT.ext E).open (i:=k) (by rw[W2];exact aq);simp(disch:=try exact O3)only[W0,U,X3 a1,a3 _ _ (B6 hx)];refine V22 (first:=[]) (cap:=[.pointer (some ⟨N+1,0,none⟩)]) (Q144 (N+1) N vs.length x vs a9 aa ao (by rw[E.get _ O0];exact a4) (by rw[E.get _ O0];exact ad)) ?_;rintro r _ _ ⟨b9,b8,rfl,rfl⟩
   by_cases ak:J12 vs x<0
   .have:=b9 ak
    subst this;simp(disch:=try exact O3)only[W0,Z0,Nat.reduceAdd,N123,Q,D7,Y12];rw[Z136 h0 ai (by rw[al];exact J134 ak az)];exact⟨⟨_,_,rfl,VOK.nil _ _ _⟩,O.hs (aD _)⟩
   .have:=b8 O0
    subst this;simp(disch:=try exact O3)only[W0,C143];have ap:D0 a9 aa (Go.Clo.hs a9 aa (some (.cells [.int .i64 (J12 vs x)] 0))) (aa+1):=(D0.refl _ _).new _ (aD _) O0;refine K38 (R.ext ap) (J9 (Z11 _ _ _) rfl O0) rfl O0 (by rw[X9,N128 a5,cK];omega) (E.trans ap) (by have:=E.le;omega) ?_;intro v' H' an be ba;refine au (m2-1) _ _ _ O0 ⟨k+1,v',zs++[J12 vs x],O0,O2,?_,by simpa [U4] using an,be⟩;rw[List.take_add_one,hx];exact W133 ak a5
  have U:¬ (k:Int)<(tl.length:Int):=O0;rw[gJ O0] at a5;obtain⟨B,rfl,_,_⟩:=R.sl
  by_cases hz:J12 C4 p0=0
  .have dz:decide (J12 C4 p0=0)=true:=by simp[hz]
   simp(disch:=try exact O3)only[W0,Z0,Nat.reduceAdd,U,dz,K142,Q,D7,Y12];rw[M123 h0 ai (by rw[al];exact a5),a8];exact⟨⟨_,_,rfl,fun _=>⟨E23.low (E23.put R O0 _) O0,rfl⟩,fun h=>absurd hz h⟩,O.hs (aD _)⟩
  .have dz:decide (J12 C4 p0=0)=false:=by simp[hz]
   simp(disch:=try exact O3)only[W0,Z0,Nat.reduceAdd,U,dz,K136,Q,D7,Y12];rw[M123 h0 ai (by rw[al];exact a5),a8];exact⟨⟨_,_,rfl,fun h=>absurd h hz,fun _=>⟨E23.low (E23.put R O0 _) O0,rfl⟩⟩,O.hs (aD _)⟩
 .have d:decide (B7 vs≠0)=true:=by simp[h0]
  simp(disch:=try exact O3)only[W0,Z0,Nat.reduceAdd,d,N123,aw,D7,Y12];rw[B136 h0];exact⟨⟨_,_,rfl,VOK.nil _ _ _⟩,af.hs (aD _)⟩
end
section
variable {n:Nat} {s:ByteArray} {vs:List ByteArray}
theorem W147(A B:Option Addr)(p q:List Int)(ca cb:Nat)(H:Y0)(nx:Nat)(hA:Sl H nx A (U4 p))(hB:Sl H nx B (U4 q))(hl:p.length<=1000000):
  Q2 gQ 16 [.slice A p.length ca,.slice B q.length cb] H nx fun r H' nx' => .bool (decide (p=q))=r/\H=H'/\nx<=nx':=by
 refine spec16 ?_;unfold F16
 by_cases U:p.length=q.length
 .have d:decide ((p.length:Int)≠(q.length:Int))=false:=by simp[U]
  simp(disch:=try exact O3)only[W0,d];refine B1 (fun m L H' nx'=>∃ i:Nat,m+i=p.length/\L=[O8 (i:Int)]/\(∀(j:Nat),j<i->p[j]? = q[j]?)/\H=H'/\nx<=nx') ?_ (m:=p.length) ⟨0,O0,rfl,fun j hj=>O0,rfl,aD _⟩;rintro m ih L _ n1 ⟨i,hm,rfl,V,rfl,Z⟩ a0;simp(disch:=try exact O3)only[W0]
  by_cases hi:i<p.length
  .have M:(i:Int)<(p.length:Int):=O0
   have W:(i:Int)<(q.length:Int):=O0;obtain⟨b,o,row,rfl,hb,Q,R⟩:=hA.open (i:=i) (by rw[X9];exact hi);obtain⟨b2,o2,a1,rfl,a2,J,E⟩:=hB.open (i:=i) (by rw[X9];omega);have hx:p[i]? = some p[i]:=aE hi;have hy:q[i]? = some (q[i]'O0):=aE O0;generalize p[i]=x at hx;generalize (q[i]'O0)=y at hy
   by_cases O:x=y
   .have d2:decide (x≠y)=false:=by simp[O]
    simp(disch:=try exact O3)only[W0,M,X3 Q,X3 J,R _ _ (Z9 hx),E _ _ (Z9 hy),d2];exact a0 (m-1) _ _ _ O0 ⟨i+1,O0,O2,fun j hj=>by
     by_cases Y:j=i
     .subst Y;rw[hx,hy,O]
     .exact V j O0,rfl,O0⟩
   .have d2:decide (x≠y)=true:=by simp[O]
    simp(disch:=try exact O3)only[W0,M,X3 Q,X3 J,R _ _ (Z9 hx),E _ _ (Z9 hy),d2];refine⟨?_,O0⟩;have:p≠q:=fun e=>by
     subst e;rw[hx] at hy;injection hy with hy;exact O hy
    simp[this]
  .have M:¬ (i:Int)<(p.length:Int):=O0
   simp(disch:=try exact O3)only[W0,M];refine⟨?_,Z⟩;have:p=q:=dH fun j=>by
    by_cases hj:j<i
    .exact V j hj
    .rw[aT O0,aT O0]
   simp[this]
 .have d:decide ((p.length:Int)≠(q.length:Int))=true:=by simp;omega
  have:p≠q:=fun e=>U (by rw[e])
  simp(disch:=try exact O3)only[W0,d];simp[this]
theorem J130:∀ {zs:List (List UInt8)} {w:List UInt8},(∀ c ∈ w,c≠32)->(∀ z ∈ zs,∀ c ∈ z,c≠32)->Y41 (w++bP [32] zs)=w :: zs
 | [],w,hw,_=>by
  simp only[bP,List.map_nil,List.flatten_nil,gV];exact V125 hw
 | z :: zs,w,hw,hz=>by
  have e:w++bP [32] (z :: zs)=w++32 :: (z++bP [32] zs):=by simp[bP]
  rw[e,E127 hw,J130 (hz z O2) (fun y hy=>hz y (eJ _ hy))]
theorem X143(zs:List ByteArray):(zs.map (·.data.toList)).map Q6=zs:=by
 rw[List.map_map]
 conv=>rhs;rw[<- List.map_id zs]
 apply List.map_congr_left;intro z _;exact B135 z
def D123(s:ByteArray):Prop:=∀ c ∈ s.data.toList,c≠32
theorem J137{w:ByteArray}{zs:List ByteArray}(hw:D123 w)(hz:∀ z ∈ zs,D123 z):C2 (w++D35 zs)=w :: zs:=by
 unfold C2;rw[cZ,Array.toList_append,U128,J130 hw (fun y hy=>by
  obtain⟨z,h1,rfl⟩:=gN.1 hy;exact hz z h1),aC,B135,X143]
theorem Z133(h:R118 s){i:Nat}{c:UInt8}(hc:s[i]? = some c):c≠32:=by
 intro e;subst e;rcases h.2.2 i _ hc with h | ⟨_,h⟩
 .revert h;decide
 .revert h;decide
theorem W134(h:C37 s=true):D123 s/\s≠V5:=by
 unfold C37 at h;have h:R118 (Y96 s):=by simpa using h
 have B:1<=s.size:=bK h.1 (Z127 s);refine⟨fun c hc => ?_,fun e=>by rw[e] at B;revert B;decide⟩;obtain⟨i,hi⟩:=List.mem_iff_getElem?.1 hc;have E:=(aJ.1 hi).1;rw[V127] at E
 by_cases ht:Q27 s
 .have he:Y96 s=s.extract 0 (s.size-2):=if_pos ht
  rw[he] at h;obtain⟨a,b,h2,ha,hb,q1,q2,q3⟩:=ht;rw[R124] at ha hb
  by_cases h1:i<s.size-2
  .refine Z133 h (i:=i) ?_
   rw[R124,G126,W124,aX,if_pos O0,dB,cF];exact hi
  .by_cases h3:i=s.size-2
   .rw[h3,ha] at hi
    injection hi with hi;intro e;rw[<- hi] at e;rw[e] at q1
    revert q1;decide
   .have h4:i=s.size-1:=O0
    rw[h4,hb] at hi;injection hi with hi;intro e;rw[<- hi] at e;rw[e] at q2
    revert q2;decide
 .have he:Y96 s=s:=if_neg ht
  rw[he] at h;exact Z133 h (by rw[R124];exact hi)
theorem Q139{vs:List ByteArray}(h:B7 vs=0):∀ s ∈ vs,C37 s=true:=by
 unfold B7 at h
 split at h
 .cases h
 .rename_i hn
  intro s hs
  cases hv:C37 s with
  | true=>rfl
  | false=>exact absurd ⟨s,hs,hv⟩ hn
theorem V147{vs:List ByteArray}(h:∀ s ∈ vs,C37 s=true)(hn:vs.Nodup):B7 vs=0:=by
 unfold B7;rw[if_neg,if_pos hn];rintro⟨s,h1,h2⟩;rw[h s h1] at h2;cases h2
theorem D142(hn:vs.Nodup){i:Int}{z:ByteArray}(h:pick vs i=some z):J12 vs z=i:=by
 unfold pick at h
 split at h
 .rename_i h0
  have hl:=(aJ.1 h).1;have:J12 vs z=(i.toNat:Nat):=K126 h fun j t hj ht he=>by
   subst he;have B:j<vs.length:=O0;have:=fD.1 hn j i.toNat B hl hj;apply this;rw[aE B] at ht;rw[aE hl] at h;injection ht with ht;injection h with h;rw[ht,h]
  rw[this];omega
 .cases h
theorem C133{vs:List ByteArray}(hn:vs.Nodup):∀ {l:List Int} {zs:List ByteArray},G15 vs l=some zs->R6 vs zs=some l
 | [],zs,h=>by cases h;rfl
 | i :: r,zs,h=>by
  unfold G15 at h
  cases hp:pick vs i with
  | none=>rw[hp] at h;cases h
  | some y=>
   rw[hp] at h;obtain⟨ys,h1,rfl⟩:=bU.1 h;have e:=D142 hn hp;have h0:¬ i<0:=fun h=>by unfold pick at hp;rw[if_neg O0] at hp;cases hp
   rw[R6,if_neg (by rw[e];exact h0),C133 hn h1,e];rfl
theorem R138:∀ w ∈ C4,D123 w/\w≠V5:=by
 intro w hw;simp only[C4,aU,List.not_mem_nil,or_false] at hw;rcases hw with rfl | rfl | rfl | rfl<;>exact⟨by unfold D123;decide,by decide⟩
theorem G144{n:Nat}(h:n<4):J12 C4 (C4.getD n ⟨#[]⟩)=(n:Int):=by
 have key:∀ j:Nat,j<4->∀ n:Nat,n<4->j<n->C4.getD j ⟨#[]⟩≠C4.getD n ⟨#[]⟩:=by decide
 have hl:C4.length=4:=rfl;refine K126 ?_ fun j t hj ht e => ?_
 .rw[aP,aE O0];rfl
 .refine key j O0 n h hj ?_
  rw[aP,ht,<- e];rfl
theorem B143(h:n<4):C4.getD n ⟨#[]⟩ ∈ C4:=by
 match n,h with
 | 0,_=>simp[C4]
 | 1,_=>simp[C4]
 | 2,_=>simp[C4]
 | 3,_=>simp[C4]
theorem R139{kind:Int}{l:List Int}(h:(Z38 vs kind l).2=0):B57 vs (Z38 vs kind l).1=(kind,l,0)/\∃ zs,G15 vs l=some zs/\0<=kind/\kind<=3/\(Z38 vs kind l).1=C4.getD kind.toNat ⟨#[]⟩++D35 zs:=by
 by_cases h0:B7 vs=0
 .by_cases hk:kind<0\/3<kind
  .rw[G93 h0 hk] at h;cases h
  .cases hl:G15 vs l with
   | none=>rw[Q121 h0 hk hl] at h;cases h
   | some zs=>
    rw[D79 h0 hk hl];have B:kind.toNat<4:=O0;obtain⟨L,J⟩:=R138 _ (B143 B);have hz:∀ z ∈ zs,D123 z/\z≠V5:=fun z hz=>W134 (Q139 h0 z (M46 hl z hz))
    have hs:=J137 L (fun z h=>(hz z h).1);refine⟨?_,zs,rfl,O0,O0,rfl⟩;have E:=G144 B;have e:B57 vs (C4.getD kind.toNat ⟨#[]⟩++D35 zs)=_:=M123 (l:=l) h0 (by
     rw[hs];rintro (h | h)
     .rw[List.headD_cons,E] at h;omega
     .rcases aU.1 h with h | h
      .exact J h.symm
      .exact(hz _ h).2 rfl) (by rw[hs,List.tail_cons];exact C133 (K131 h0) hl)
    rw[e,hs,List.headD_cons,E];congr 1;omega
 .rw[B121 h0] at h;exact absurd h h0
end
section
variable {H:Y0} {b nx sl:Nat} {c:List Value}
def Q7:List ByteArray:=[⟨#[120]⟩,⟨#[121]⟩,⟨#[122]⟩]
theorem J141{c:UInt8}(h:X32 c=true):C37 ⟨#[c]⟩=true:=by
 have hn:R118 (Y96 ⟨#[c]⟩):=by
  rw[W125 (by show ¬ 2<1;omega)];refine⟨by show 1<=1;omega,by show 1<=16;omega,fun i d hd => ?_⟩;rw[R124] at hd
  match i,hd with
  | 0,hd=>cases hd;exact .inl h
  | i+1,hd=>simp at hd
 unfold C37;simpa using hn
theorem N129:B7 Q7=0:=V147 (fun s hs=>by
 simp only[Q7,aU,List.not_mem_nil,or_false] at hs;rcases hs with rfl | rfl | rfl<;>exact J141 (by decide)) (by decide)
theorem R127:N39 Q7:=fun s hs=>by
 simp only[Q7,aU,List.not_mem_nil,or_false] at hs;rcases hs with rfl | rfl | rfl<;>decide
theorem N126{w t:ByteArray}{zs:List ByteArray}(h:t.data.toList=w.data.toList++bP [32] (zs.map (·.data.toList))):w++D35 zs=t:=by
 apply J113;rw[bB,bB,cZ,Array.toList_append,U128,h]
theorem J147:Z38 Q7 3 [0,1,2]=(⟨#[116,114,105,111,32,120,32,121,32,122]⟩,0):=by
 rw[D79 N129 O0 (zs:=Q7) rfl];rw[N126];rfl
theorem U147:Z38 Q7 0 []=(⟨#[97,99,99,101,112,116,101,100]⟩,0):=by
 rw[D79 N129 O0 (zs:=[]) rfl];rw[N126];rfl
theorem Q138:Z38 Q7 2 [2,0]=(⟨#[112,97,116,104,32,122,32,120]⟩,0):=by
 rw[D79 N129 O0 (zs:=[⟨#[122]⟩,⟨#[120]⟩]) rfl];rw[N126];rfl
theorem R145:B57 Q7 ⟨#[112,97,116,104,32,122,32,120]⟩=(2,[2,0],0):=by
 have:=(R139 (vs:=Q7) (kind:=2) (l:=[2,0]) (by rw[Q138])).1;rwa [Q138] at this
theorem B140(a b c z:ByteArray)(k:List Value->Prop):K6 3 1 [.string z] [(0,.string a),(1,.string b),(2,.string c)] k=k (N0 [a,b,c]):=by
 rw[Q66];show(if Z0 (N0 [a,b,c])=true then k (N0 [a,b,c]) else False)=_;exact if_pos (show Z0 (N0 [a,b,c])=true from rfl)
theorem N140(a b c z:Int)(k:List Value->Prop):K6 3 1 [O8 z] [(0,O8 a),(1,O8 b),(2,O8 c)] k=k (U4 [a,b,c]):=by
 rw[Q66];show(if Z0 (U4 [a,b,c])=true then k (U4 [a,b,c]) else False)=_;exact if_pos (show Z0 (U4 [a,b,c])=true from rfl)
theorem U141(a b z:Int)(k:List Value->Prop):K6 2 1 [O8 z] [(0,O8 a),(1,O8 b)] k=k (U4 [a,b]):=by
 rw[Q66];show(if Z0 (U4 [a,b])=true then k (U4 [a,b]) else False)=_;exact if_pos (show Z0 (U4 [a,b])=true from rfl)
theorem sl_new(hb:b<nx)(hg:J0 H b=some (.cells c sl)):Sl H nx (some ⟨b,0,none⟩) c:=fun i u hu=>⟨b,0,c,rfl,hb,by simp[Q5,hg,V3.row],by simpa using hu⟩
theorem X132(hb:b<nx)(hg:J0 H b=some (.cells c sl)):U9 H nx (some ⟨b,0,none⟩) := .inr ⟨b,0,c,rfl,hb,by simp[Q5,hg,V3.row]⟩
theorem E134(H:Y0)(nx:Nat):Q2 gQ 7 [] H nx fun r H' nx' => .bool true=r/\D0 H nx H' nx':=by
 refine spec7 ?_;unfold F7;have U:D0 H nx (Go.Clo.hs (Go.Clo.hs H nx (some (.cells (N0 Q7) 0))) (nx+1) (some (.cells (U4 [0,1,2]) 0))) (nx+1+1):=((D0.refl H nx).new _ (aD _) (Nat.le_succ _)).new _ O0 O0;have J:J0 (Go.Clo.hs (Go.Clo.hs H nx (some (.cells (N0 Q7) 0))) (nx+1) (some (.cells (U4 [0,1,2]) 0))) nx=some (.cells (N0 Q7) 0):=by rw[Z1 _ O0,Z11]
 have V:J0 (Go.Clo.hs (Go.Clo.hs H nx (some (.cells (N0 Q7) 0))) (nx+1) (some (.cells (U4 [0,1,2]) 0))) (nx+1)=some (.cells (U4 [0,1,2]) 0):=Z11 _ _ _;have ex:N0 [⟨#[120]⟩,⟨#[121]⟩,⟨#[122]⟩]=N0 Q7:=rfl;simp(disch:=try exact O3)only[W0,Q0.val,B140,N140,K136,ex];generalize Go.Clo.hs (Go.Clo.hs H nx (some (.cells (N0 Q7) 0))) (nx+1) (some (.cells (U4 [0,1,2]) 0))=H2 at U J V ⊢;refine R0 (D135 (some ⟨nx,0,none⟩) none (some ⟨nx+1,0,none⟩) Q7 3 [] [0,1,2] 3 0 3 H2 (nx+1+1) (sl_new O0 J) (X132 O0 J) (fun h=>by cases h) R127 (by decide) (Sl.nil _ _ _) (sl_new O0 V) (by decide) (by decide)) ?_;rintro _ H3 n3 ⟨rfl,O⟩;rw[if_neg (by decide),J147];have a2:=O.le;have E:J0 H3 nx=some (.cells (N0 Q7) 0):=by rw[O.get nx O0];exact J
 simp(disch:=try exact O3)only[W0,K75,N123];refine R0 (D135 (some ⟨nx,0,none⟩) none none Q7 0 [] [] 3 0 0 H3 n3 (sl_new O0 E) (X132 O0 E) (fun h=>by cases h) R127 (by decide) (Sl.nil _ _ _) (Sl.nil _ _ _) (by decide) (by decide)) ?_;rintro _ H4 n4 ⟨rfl,Q⟩;rw[if_pos rfl,U147];have a3:=Q.le;have L:J0 H4 nx=some (.cells (N0 Q7) 0):=by rw[Q.get nx O0];exact E
 simp(disch:=try exact O3)only[W0,K75];refine R0 (Q146 (some ⟨nx,0,none⟩) Q7 ⟨#[112,97,116,104,32,122,32,120]⟩ 3 H4 n4 (sl_new O0 L) (X132 O0 L) (fun h=>by cases h) R127 (by decide) (by decide)) ?_;rintro _ H5 n5 ⟨⟨P,W,rfl,hV⟩,Z⟩;rw[R145] at hV ⊢;obtain⟨hW,rfl⟩:=hV.2 (by decide);obtain⟨B,rfl,hB,_⟩:=hW.sl;have M:D0 H5 n5 (Go.Clo.hs (Go.Clo.hs H5 n5 (some (.cells [.int .i64 0,.slice none 0 0,.slice none 0 0] 0))) n5 (some (.cells [.int .i64 2,.slice none 0 0,.slice B (U4 [2,0]).length (U4 [2,0]).length] 0))) (n5+1):=((D0.refl _ _).new _ (aD _) O0).new _ (aD _) (aD _);have R:J0 (Go.Clo.hs (Go.Clo.hs H5 n5 (some (.cells [.int .i64 0,.slice none 0 0,.slice none 0 0] 0))) n5 (some (.cells [.int .i64 2,.slice none 0 0,.slice B (U4 [2,0]).length (U4 [2,0]).length] 0))) n5=some (.cells [.int .i64 2,.slice none 0 0,.slice B (U4 [2,0]).length (U4 [2,0]).length] 0):=Z11 _ _ _;simp(disch:=try exact O3)only[W0,Z0,Nat.reduceAdd,D7];generalize Go.Clo.hs (Go.Clo.hs H5 n5 (some (.cells [.int .i64 0,.slice none 0 0,.slice none 0 0] 0))) n5 (some (.cells [.int .i64 2,.slice none 0 0,.slice B (U4 [2,0]).length (U4 [2,0]).length] 0))=H7 at M R ⊢;have z0:decide ((0:Int)=0)=true:=by decide
 have z2:decide ((2:Int)=2)=true:=by decide
 simp(disch:=try exact O3)only[W0,K5,U141];have Y:D0 H7 (n5+1) (Go.Clo.hs H7 (n5+1) (some (.cells (U4 [2,0]) 0))) (n5+1+1):=(D0.refl _ _).new _ (aD _) O0;refine R0 (W147 B (some ⟨n5+1,0,none⟩) [2,0] [2,0] 2 2 _ (n5+1+1) (hB.ext (M.trans Y)) (sl_new O0 (Z11 _ _ _)) (by decide)) ?_;rintro _ _ n9 ⟨rfl,rfl,a0⟩;have a1:J0 (Go.Clo.hs H7 (n5+1) (some (.cells (U4 [2,0]) 0))) n5=some (.cells [.int .i64 2,.slice none 0 0,.slice B (U4 [2,0]).length (U4 [2,0]).length] 0):=by rw[Z1 _ O0];exact R
 have e9:decide (([2,0]:List Int)=[2,0])=true:=by decide
 have z3:decide (((0:Nat):Int)=0)=true:=by decide
 simp(disch:=try exact O3)only[W0,a1,z3];exact((((U.trans O).trans Q).trans Z).trans (M.trans Y)).more a0
end
theorem X148(q:M13)(H:Y0)(nx:Nat)(hQ:D66 H nx q)(hL:R130 q):Q2 gQ 5 [.agg ⟨Z16 q⟩] H nx fun v H' nx'=>(∃ c:Bool,v = .bool c/\(c=false->G113 q))/\D0 H nx H' nx':=
 spec5 (J148 q H nx hQ hL)
section
variable {H:Y0} {c:List Value} {i nx:Nat} {v:Value}
structure N22 where
 VA:Option Addr
 vc:Nat
 vars:List ByteArray
 free:Int
 DA:Option Addr
 dc:Nat
 desc:List Bool
 kind:Int
 PA:Option Addr
 pc:Nat
 p:List Int
 WA:Option Addr
 wc:Nat
 w:List Int
 EA:Option Addr
 ec:Nat
 e:List Int
 num:Int
 den:Int
def C95(a:N22):List Value:=[.slice a.VA a.vars.length a.vc,.int .i64 a.free,.slice a.DA a.desc.length a.dc,.int .i64 a.kind,.slice a.PA a.p.length a.pc,.slice a.WA a.w.length a.wc,.slice a.EA a.e.length a.ec,.int .i8 a.num,.int .i8 a.den]
theorem V135(a:N22):(C95 a).length=9:=rfl
def Lg(n:Nat):Prop:=n<2305843009213693952
structure M138 (H:Y0) (nx:Nat) (a:N22):Prop where
 vars:Sl H nx a.VA (N0 a.vars)
 varsW:C124 H nx a.VA a.vars.length a.vc
 vcap:a.vars.length<=a.vc
 desc:Sl H nx a.DA (bls a.desc)
 p:Sl H nx a.PA (U4 a.p)
 w:Sl H nx a.WA (U4 a.w)
 e:Sl H nx a.EA (U4 a.e)
 lens:Lg a.vars.length/\Lg a.desc.length/\Lg a.p.length/\Lg a.w.length/\Lg a.e.length
 num : -128<=a.num/\a.num<=127
 den : -128<=a.den/\a.den<=127
def mkP(a:N22)(s:Bool)(NA:Option Addr)(nc n:Nat)(MA:Option Addr)(mc d:Nat):K39:=
 { VA:=a.VA,vc:=a.vc,vars:=a.vars,free:=a.free,DA:=a.DA,dc:=a.dc,desc:=a.desc,kind:=a.kind,PA:=a.PA,pc:=a.pc,p:=a.p,WA:=a.WA,wc:=a.wc,w:=a.w,EA:=a.EA,ec:=a.ec,e:=a.e,s:=s,NA:=NA,nc:=nc,n:=n,MA:=MA,mc:=mc,d:=d }
def K9(q:M13)(v:Value):List Value:=[.slice q.HA q.head.length q.hc,.int .i64 q.agg,.string q.aggvar,.slice q.RA q.rules.length q.rc,.slice q.OA q.order.length q.oc,v]
def Z145:List Value:=[.slice none 0 0,.int .i64 0,.slice none 0 0,.int .i64 0,.slice none 0 0,.slice none 0 0,.slice none 0 0,.int .i8 0,.int .i8 0]
structure LI (Hb:Y0) (nd:Nat) (q:M13) (i:Nat) (xs:List K39) (v:Value) (H:Y0) (nx:Nat):Prop where
 len:xs.length=i
 acc:J6 (nd+1) H nx 11 v i (xs.flatMap K4)
 box:J0 H nd=some (.cells (K9 q v) 0)
 base:∀ j,j<nd->J0 H j=J0 Hb j
 lt:nd<nx
 parts:∀ x ∈ xs,D69 (er2 H nd (R5 nd v)) nx x
theorem M126{lo:Nat}(h:J6 lo H nx 11 v i c):v=O6\/∃ g,lo<=g/\g<nx/\v = .slice (some ⟨g,0,none⟩) i i/\J0 H g=some (.cells c 11):=by
 rcases h.2 with ⟨_,h⟩ | ⟨b,h1,h2,h3,h4⟩
 .exact .inl h
 .exact .inr ⟨b,h1,h2,h3,h4⟩
theorem B148{nd:Nat}(h:J6 (nd+1) H nx 11 v i c)(hn:nd<nx):nd<=R5 nd v/\R5 nd v<nx:=by
 rcases M126 h with rfl | ⟨g,h1,h2,rfl,_⟩
 .exact⟨aD _,hn⟩
 .exact⟨by show nd<=g;omega,h2⟩
theorem Y134{H:Y0}{nx:Nat}:∀(xs:List K39) (i:Nat) (a:ByteArray),(∀ x ∈ xs,D69 H nx x)->(K29 i xs a).1.size<=a.size+80000*xs.length
 | [],i,a,_=>by simp[K29]
 | x :: r,i,a,h=>by
  have h1:=E126 (B8 i) (h x O2) (N121 i);have h2:=Y134 r (i+1) (a++(U37 (B8 i) x).1) fun y hy=>h y (eJ _ hy)
  rw[aA] at h2;rw[cV];unfold K29
  split
  .exact aL _
  .omega
theorem M146(p:ByteArray):p++⟨#[]⟩=p:=by
 apply J113;rw[bB,bB,X118];exact gV _
theorem Q149(b o:Nat)(H:Y0)(k:VP):J1 (.pointer (some ⟨b,o,none⟩)) (some 9) H k=V7 (J0 H b) o (some 9) k:=W31 b o 8 H k
theorem B141{n:Int}(h : -128<=n/\n<=127)(k:VP):W8 .i64 (.int .i8 n) k=k (O8 n):=by
 rw[Z32,Y23 O0 O0]
theorem N29 (q : M13) (LA : Option Addr) (lc : Nat) (az : List N22) (H : Y0) (nx : Nat) (hQ : D66 H nx q) (hL : R130 q) (hN : X126 q) (hA : Sl H nx LA (az.flatMap C95)) (hP : ∀ a ∈ az, M138 H nx a) (hal : az.length < 2305843009213693952) :
    Q2 Tryz.prog 4 [.agg ⟨Z16 q⟩, .slice LA az.length lc] H nx fun v H' nx' => .bool true = v /\ D0 H nx H' nx' := by
  refine spec4 ?_
  unfold F4
  have ho5 : Z0 (Z16 q) = true := rfl
  have hE1 : D0 H nx (hs H nx (some (.cells (Z16 q) 0))) (nx + 1) := (D0.refl H nx).new _ (Nat.le_refl _) (by omega)
  have hg1 : J0 (hs H nx (some (.cells (Z16 q) 0))) nx = some (.cells (Z16 q) 0) := Z11 _ _ _
  have hc5 : ∀ k : VP, B10 (Z16 q) 0 (some 5) k = k (.agg ⟨Z16 q⟩) := fun k => K26 k
  simp only [W1]
  rw [Y31, if_pos ho5, Q37]
  generalize hs H nx (some (.cells (Z16 q) 0)) = H1 at hE1 hg1 ⊢
  refine N5 (fun L H' nx' => ∃ c : Bool, L = [.bool c] /\ D0 H1 (nx + 1) H' nx' /\ (c = false -> G113 q /\ az.length <= 3)) ?_ ?_
  · intro j hj
    simp (disch := first|omega|assumption) only [W0, Q0.val, R109, hg1, hc5]
    refine R0 (X148 q _ _ (hQ.ext hE1) hL) ?_
    rintro _ H2 n2 ⟨⟨c, rfl, hc⟩, hE2⟩
    cases c with
    | true =>
      simp (disch := first|omega|assumption) only [W0]
      exact hj _ _ _ ⟨true, rfl, hE2, fun h => by cases h⟩
    | false =>
      simp (disch := first|omega|assumption) only [W0]
      refine hj _ _ _ ⟨_, rfl, hE2, fun h => ⟨hc rfl, ?_⟩⟩
      have := of_decide_eq_false h
      omega
  rintro L H2 n2 ⟨c, rfl, hE2, hcc⟩
  have hE02 := hE1.trans hE2
  have hg2 := (hE2.get nx (by omega)).trans hg1
  cases c with
  | true =>
    simp (disch := first|omega|assumption) only [W0, Q0.val]
    refine R0 (E134 H2 n2) ?_
    rintro _ H7 nx7 ⟨rfl, hE7⟩
    simp (disch := first|omega|assumption) only [W0]
    exact hE02.trans hE7
  | false =>
  obtain ⟨hS, hl3⟩ := hcc rfl
  have eb : ∀ k : VP, U11 [.slice none 0 0, .int .i64 0, .string ⟨#[]⟩, .slice none 0 0, .slice none 0 0, .slice none 0 0] [(0, 5), (5, 1)] [(0, .agg ⟨Z16 q⟩)] k = k (.agg ⟨K9 q (.slice none 0 0)⟩) := fun k => V14 _ _
  have hn6 : (K9 q (.slice none 0 0)).length = 6 := rfl
  have ho6 : Z0 (K9 q (.slice none 0 0)) = true := rfl
  have hput6 : B12 [.slice none 0 0, .int .i64 0, .string ⟨#[]⟩, .slice none 0 0, .slice none 0 0, .slice none 0 0] 0 (K9 q (.slice none 0 0)) = K9 q (.slice none 0 0) := G24 rfl
  have hE3 : D0 H2 n2 (hs (hs H2 n2 (some (.cells [.slice none 0 0, .int .i64 0, .string ⟨#[]⟩, .slice none 0 0, .slice none 0 0, .slice none 0 0] 0))) n2 (some (.cells (K9 q (.slice none 0 0)) 0))) (n2 + 1) := ((D0.refl _ _).new _ (Nat.le_refl _) (by omega) : D0 H2 n2 _ (n2 + 1)).hs (Nat.le_refl _)
  have hd3 : J0 (hs (hs H2 n2 (some (.cells [.slice none 0 0, .int .i64 0, .string ⟨#[]⟩, .slice none 0 0, .slice none 0 0, .slice none 0 0] 0))) n2 (some (.cells (K9 q (.slice none 0 0)) 0))) n2 = some (.cells (K9 q (.slice none 0 0)) 0) := Z11 _ _ _
  have hnx2 : nx < n2 := by have := hE2.le; omega
  simp (config := { maxSteps := 2000000 }) (disch := first|omega|assumption) only [W0, Q0.val, Nat.reduceAdd, R109, hg2, hc5, eb, hn6, ho6, hput6]
  generalize hs (hs H2 n2 (some (.cells [.slice none 0 0, .int .i64 0, .string ⟨#[]⟩, .slice none 0 0, .slice none 0 0, .slice none 0 0] 0))) n2 (some (.cells (K9 q (.slice none 0 0)) 0)) = H3 at hE3 hd3 ⊢
  have hQ3 := (hQ.ext hE02).ext hE3
  refine B1 (fun m L H' nx' => ∃ (i : Nat) (xs : List K39) (v : Value), m + i = az.length /\ L = [.int .i64 (i : Int)] /\ LI H3 n2 q i xs v H' nx') ?_ (m := az.length)
    ⟨0, [], .slice none 0 0, by omega, rfl, ⟨rfl, J6.nil _ _ _ _, hd3, fun _ _ => rfl, by omega, fun x hx => by cases hx⟩⟩
  rintro m ih L H4 n4 ⟨i, xs, v, hm, rfl, hI⟩ hih
  have hlt := hI.lt
  have hE34 : D0 H3 n2 H4 n4 := ⟨by omega, hI.base⟩
  have hE04 : D0 H nx H4 n4 := (hE02.trans (D0.low hE3)).trans hE34
  obtain ⟨hb1, hb2⟩ := B148 hI.acc hlt
  by_cases hi : i < az.length
  · have hi' : (i : Int) < (az.length : Int) := by omega
    have ht : az[i]? = some az[i] := List.getElem?_eq_getElem hi
    generalize az[i] = a at ht
    have ham : a ∈ az := List.mem_of_getElem? ht
    have ha := hP a ham
    have ha4 := ha.vars.ext hE04
    obtain ⟨bt, ot, row, hta, hbt, hrow, _, hcell⟩ := Sl.elem (hA.ext hE04) V135 (by omega) ht
    rw [hta]
    have hn9 : (C95 a).length = 9 := rfl
    have ho9 : Z0 (C95 a) = true := rfl
    have hput9 : B12 Z145 0 (C95 a) = C95 a := G24 rfl
    unfold Z145 at hput9
    have hE5 : D0 H4 n4 (hs (hs H4 n4 (some (.cells [.slice none 0 0, .int .i64 0, .slice none 0 0, .int .i64 0, .slice none 0 0, .slice none 0 0, .slice none 0 0, .int .i8 0, .int .i8 0] 0))) n4 (some (.cells (C95 a) 0))) (n4 + 1) := ((D0.refl _ _).new _ (Nat.le_refl _) (by omega) : D0 H4 n4 _ (n4 + 1)).hs (Nat.le_refl _)
    have hg5 : J0 (hs (hs H4 n4 (some (.cells [.slice none 0 0, .int .i64 0, .slice none 0 0, .int .i64 0, .slice none 0 0, .slice none 0 0, .slice none 0 0, .int .i8 0, .int .i8 0] 0))) n4 (some (.cells (C95 a) 0))) n4 = some (.cells (C95 a) 0) := Z11 _ _ _
    simp (config := { maxSteps := 2000000 }) (disch := first|omega|assumption) only [W0, Nat.reduceAdd, hi', Q149, X3 hrow, hcell, hn9, ho9, hput9]
    generalize hs (hs H4 n4 (some (.cells [.slice none 0 0, .int .i64 0, .slice none 0 0, .int .i64 0, .slice none 0 0, .slice none 0 0, .slice none 0 0, .int .i8 0, .int .i8 0] 0))) n4 (some (.cells (C95 a) 0)) = H5 at hE5 hg5 ⊢
    have r0 : (C95 a)[0]? = some (.slice a.VA a.vars.length a.vc) := rfl
    have r1 : (C95 a)[1]? = some (.int .i64 a.free) := rfl
    have r2 : (C95 a)[2]? = some (.slice a.DA a.desc.length a.dc) := rfl
    have r6 : (C95 a)[6]? = some (.slice a.EA a.e.length a.ec) := rfl
    have r7 : (C95 a)[7]? = some (.int .i8 a.num) := rfl
    have r8 : (C95 a)[8]? = some (.int .i8 a.den) := rfl
    have r3 : ∀ k : VP, B10 (C95 a) 3 (some 3) k = k (.agg ⟨[.int .i64 a.kind, .slice a.PA a.p.length a.pc, .slice a.WA a.w.length a.wc]⟩) := fun k => M114 rfl (by show 6 <= 9; omega) k
    obtain ⟨l1, l2, l3, l4, l5⟩ := ha.lens
    unfold Lg at l1 l2 l3 l4 l5
    have hE05 := hE04.trans hE5
    refine N5 (fun L H' nx' => ∃ c : Bool, L = [.bool c] /\ D0 H5 (n4 + 1) H' nx' /\ (c = false -> N39 a.vars /\ a.vars.length <= 20 /\ a.p.length + a.w.length <= 40 /\ a.desc.length + a.e.length <= 40)) ?_ ?_
    · intro j hj
      simp (disch := first|omega|assumption) only [W0, r0, r3]
      refine R0 (X149 a.VA a.PA a.WA a.vars a.kind a.vc a.p.length a.pc a.w.length a.wc _ _ (ha.vars.ext hE05) (by omega) (by omega) (by omega)) ?_
      rintro _ H6 n6 ⟨⟨c, rfl, hc⟩, hE6⟩
      have hg6 := (hE6.get n4 (by omega)).trans hg5
      cases c with
      | true =>
        simp (disch := first|omega|assumption) only [W0]
        exact hj _ _ _ ⟨true, rfl, hE6, fun h => by cases h⟩
      | false =>
        simp (disch := first|omega|assumption) only [W0, hg6, r2, r6]
        refine hj _ _ _ ⟨_, rfl, hE6, fun h => ?_⟩
        obtain ⟨h1, h2, h3⟩ := hc rfl
        have := of_decide_eq_false h
        exact ⟨h1, h2, h3, by omega⟩
    rintro L H6 n6 ⟨c, rfl, hE6, hbnd⟩
    have hE46 := hE5.trans hE6
    have hE06 := hE04.trans hE46
    have hg6 := (hE6.get n4 (by omega)).trans hg5
    cases c with
    | true =>
      simp (disch := first|omega|assumption) only [W0]
      refine R0 (E134 H6 n6) ?_
      rintro _ H7 n7 ⟨rfl, hE7⟩
      simp (disch := first|omega|assumption) only [W0]
      exact hE06.trans hE7
    | false =>
    obtain ⟨hsh, hv20, hpw, hde⟩ := hbnd rfl
    have hn46 := hE46.le
    have hn56 := hE6.le
    simp (config := { maxSteps := 2000000 }) (disch := first|omega|assumption) only [W0, hg6, r7, r8, B141 ha.num, B141 ha.den]
    refine R76 (p := n2) (q := R5 n2 v) (by omega) (by omega) (N146 a.num a.den ha.num ha.den _ _) (fun _ _ _ h => h.2) ?_
    rintro _ H7 n7 H0 ⟨⟨rv, ee, s, n, d, rfl, ⟨⟨nv, dv, rfl, hnn, hdd⟩, hnle, hdle⟩⟩, hE60⟩ hE7 hsub hT7
    obtain ⟨NA, nc, rfl, hnA⟩ := hnn
    obtain ⟨MA, mc, rfl, hdA⟩ := hdd
    have hE47 := hE46.trans hE7
    have hg7 := (hE7.get n4 (by omega)).trans hg6
    have hn67 := hE7.le
    have hE8 : D0 H7 n7 (hs (hs H7 n7 (some (.cells [.bool false, .slice none 0 0, .slice none 0 0] 0))) n7 (some (.cells [.bool s, .slice NA (D11 n).length nc, .slice MA (D11 d).length mc] 0))) (n7 + 1) := ((D0.refl _ _).new _ (Nat.le_refl _) (by omega) : D0 H7 n7 _ (n7 + 1)).hs (Nat.le_refl _)
    have hr8 : J0 (hs (hs H7 n7 (some (.cells [.bool false, .slice none 0 0, .slice none 0 0] 0))) n7 (some (.cells [.bool s, .slice NA (D11 n).length nc, .slice MA (D11 d).length mc] 0))) n7 = some (.cells [.bool s, .slice NA (D11 n).length nc, .slice MA (D11 d).length mc] 0) := Z11 _ _ _
    simp (config := { maxSteps := 2000000 }) (disch := first|omega|assumption) only [W0, Z0, Nat.reduceAdd, D7]
    generalize hs (hs H7 n7 (some (.cells [.bool false, .slice none 0 0, .slice none 0 0] 0))) n7 (some (.cells [.bool s, .slice NA (D11 n).length nc, .slice MA (D11 d).length mc] 0)) = H8 at hE8 hr8 ⊢
    have hE48 := hE47.trans hE8
    have hg8 := (hE8.get n4 (by omega)).trans hg7
    have hbox8 := (hE48.get n2 hlt).trans hI.box
    have hbox7 := (hE47.get n2 hlt).trans hI.box
    have p5 : (K9 q v)[5]? = some v := rfl
    obtain ⟨x, hx⟩ : ∃ x, x = mkP a s NA nc n MA mc d := ⟨_, rfl⟩
    have eb4 : ∀ k : VP, U11 [.slice none 0 0, .int .i64 0, .slice none 0 0, .slice none 0 0] [(0, 1), (1, 1), (2, 1), (3, 1)] [(0, .slice a.VA a.vars.length a.vc), (1, .int .i64 a.free), (2, .slice a.DA a.desc.length a.dc)] k = k (.agg ⟨K27 x⟩) := fun k => by subst hx; exact V14 _ _
    have eb11 : ∀ k : VP, U11 [.slice none 0 0, .int .i64 0, .slice none 0 0, .slice none 0 0, .int .i64 0, .slice none 0 0, .slice none 0 0, .slice none 0 0, .bool false, .slice none 0 0, .slice none 0 0] [(0, 4), (4, 3), (7, 1), (8, 3)] [(0, .agg ⟨K27 x⟩), (1, .agg ⟨[.int .i64 a.kind, .slice a.PA a.p.length a.pc, .slice a.WA a.w.length a.wc]⟩), (2, .slice a.EA a.e.length a.ec), (3, .agg ⟨[.bool s, .slice NA (D11 n).length nc, .slice MA (D11 d).length mc]⟩)] k = k (.agg ⟨K4 x⟩) := fun k => by subst hx; exact V14 _ _
    have ed : ∀ k : List Value -> Prop, K6 1 11 [.slice none 0 0, .int .i64 0, .slice none 0 0, .slice none 0 0, .int .i64 0, .slice none 0 0, .slice none 0 0, .slice none 0 0, .bool false, .slice none 0 0, .slice none 0 0] [(0, .agg ⟨K4 x⟩)] k = k (K4 x) := fun k => by
      rw [Q66]
      show (if Z0 (K4 x) = true then k (K4 x) else False) = _
      exact if_pos rfl
    simp (config := { maxSteps := 2000000 }) (disch := first|omega|assumption) only [W0, hg7, hbox7, p5, r0, r1, r2, r3, r6, Y12, eb4, eb11, ed]
    have hE9 : D0 H8 (n7 + 1) (hs H8 (n7 + 1) (some (.cells (K4 x) 0))) (n7 + 1 + 1) := (D0.refl _ _).new _ (Nat.le_refl _) (by omega)
    have hg9 : J0 (hs H8 (n7 + 1) (some (.cells (K4 x) 0))) (n7 + 1) = some (.cells (K4 x) 0) := Z11 _ _ _
    generalize hs H8 (n7 + 1) (some (.cells (K4 x) 0)) = H9 at hE9 hg9 ⊢
    have hE49 := hE48.trans hE9
    have hsrc : Go.Clo.Src H9 11 (.slice (some ⟨n7 + 1, 0, none⟩) 1 1) 1 (K4 x) := J9 hg9 rfl (by omega)
    have hacc9 := hI.acc.ext hE49
    refine E72 (d := n7 + 1 + 1) (by omega) hacc9 hsrc (by omega) rfl (by omega) (by omega) ?_
    intro H10 hg10 hot
    have hbkv : ∀ j, j < n4 -> j ≠ R5 n2 v -> j ≠ R5 (n7 + 1 + 1) v := fun j hj hne => by
      rcases M126 hI.acc with e | ⟨g, h1, h2, e, _⟩
      · rw [e]; show j ≠ n7 + 1 + 1; omega
      · rw [e] at hne ⊢; exact hne
    have hn2v : n2 ≠ R5 (n7 + 1 + 1) v := by
      rcases M126 hI.acc with e | ⟨g, h1, h2, e, _⟩
      · rw [e]; show n2 ≠ n7 + 1 + 1; omega
      · rw [e]; show n2 ≠ g; omega
    have hbox10 : J0 H10 n2 = some (.cells (K9 q v) 0) := by rw [hot n2 (by omega) hn2v]; exact (hE49.get n2 hlt).trans hI.box
    have hput : B12 (K9 q v) 5 [.slice (some ⟨n7 + 1 + 1, 0, none⟩) (i + 1) (i + 1)] = K9 q (.slice (some ⟨n7 + 1 + 1, 0, none⟩) (i + 1) (i + 1)) := rfl
    have hl6 : (K9 q v).length = 6 := rfl
    simp (config := { maxSteps := 2000000 }) (disch := first|omega|assumption) only [W0, Nat.reduceAdd, hbox10, hput, hl6]
    refine hih (m - 1) _ _ _ (by omega) ⟨i + 1, xs ++ [x], .slice (some ⟨n7 + 1 + 1, 0, none⟩) (i + 1) (i + 1), by omega, by simp, ?_⟩
    have hsub4 : C12 (er2 H4 n2 (R5 n2 v)) n4 (er2 (hs H10 n2 (some (.cells (K9 q (.slice (some ⟨n7 + 1 + 1, 0, none⟩) (i + 1) (i + 1))) 0))) n2 (n7 + 1 + 1)) := fun j b hj hb => by
      have h1 : j ≠ n2 := by rintro rfl; rw [V79] at hb; cases hb
      have h2 : j ≠ R5 n2 v := by rintro rfl; rw [X80] at hb; cases hb
      rw [U48 h1 h2] at hb
      rw [U48 h1 (by omega), Z1 _ h1, hot j (by omega) (hbkv j hj h2), hE49.get j hj]
      exact hb
    have hsub7 : C12 H0 n7 (er2 (hs H10 n2 (some (.cells (K9 q (.slice (some ⟨n7 + 1 + 1, 0, none⟩) (i + 1) (i + 1))) 0))) n2 (n7 + 1 + 1)) := fun j b hj hb => by
      have hb7 := hsub j b hj hb
      have h1 : j ≠ n2 := by rintro rfl; rw [V79] at hb7; cases hb7
      have h2 : j ≠ R5 n2 v := by rintro rfl; rw [X80] at hb7; cases hb7
      have h3 : j ≠ R5 (n7 + 1 + 1) v := by
        rcases M126 hI.acc with e | ⟨g, g1, g2, e, _⟩
        · rw [e]; show j ≠ n7 + 1 + 1; omega
        · rw [e] at h2 ⊢; exact h2
      rw [U48 h1 h2] at hb7
      rw [U48 h1 (by omega), Z1 _ h1, hot j (by omega) h3, hE9.get j (by omega), hE8.get j hj]
      exact hb7
    have hsubH : C12 H nx (er2 (hs H10 n2 (some (.cells (K9 q (.slice (some ⟨n7 + 1 + 1, 0, none⟩) (i + 1) (i + 1))) 0))) n2 (n7 + 1 + 1)) := fun j b hj hb => by
      have h1 : j ≠ n2 := by omega
      have h2 : j ≠ R5 n2 v := by omega
      rw [U48 h1 (by omega), Z1 _ h1, hot j (by omega) (hbkv j (by omega) h2), (hE04.trans hE49).get j hj]
      exact hb
    refine ⟨by simp [hI.len], ⟨?_, .inr ⟨n7 + 1 + 1, by omega, by omega, rfl, ?_⟩⟩, Z11 _ _ _, fun j hj => ?_, by omega, fun y hy => ?_⟩
    · have := hI.acc.1
      rw [List.flatMap_append, List.length_append, this]
      simp [X77]
      omega
    · rw [Z1 _ (by omega), hg10]
      simp
    · have h2 : j ≠ R5 n2 v := by omega
      rw [Z1 _ (by omega), hot j (by omega) (hbkv j (by omega) h2), hE49.get j (by omega), hI.base j hj]
    · rcases List.mem_append.1 hy with hy | hy
      · exact (hI.parts y hy).sub hsub4 (by omega)
      · rw [List.mem_singleton.1 hy, hx]
        exact { vars := ha.vars.sub hsubH (by omega), varsW := ha.varsW.sub hsubH (by omega), vcap := ha.vcap, short := hsh, vlen := hv20, desc := ha.desc.sub hsubH (by omega), dlen := by show a.desc.length <= 40; omega,
                p := ha.p.sub hsubH (by omega), plen := by show a.p.length <= 40; omega, w := ha.w.sub hsubH (by omega), wlen := by show a.w.length <= 40; omega, e := ha.e.sub hsubH (by omega), elen := by show a.e.length <= 40; omega,
                num := NN.sub ⟨_, _, rfl, hnA⟩ hsub7 (by omega), den := NN.sub ⟨_, _, rfl, hdA⟩ hsub7 (by omega), nle := hnle, dle := hdle }
  · have hi' : ¬ (i : Int) < (az.length : Int) := by omega
    have ei : i = az.length := by omega
    clear hih
    obtain ⟨A, hvA, hAS⟩ := hI.acc.sl
    rw [<- hI.len] at hvA
    have hx3 : xs.length <= 3 := by rw [hI.len]; omega
    have hPx : ∀ x ∈ xs, D69 H4 n4 x := fun x hx => (hI.parts x hx).sub (fun j b _ hb => V97 j b hb) (Nat.le_refl _)
    have hQ4 := hQ.ext hE04
    have hbox := hI.box
    rw [hvA] at hbox
    have epl : K9 q (.slice A xs.length xs.length) = N72 q A xs.length xs.length := rfl
    rw [epl] at hbox
    have hc6 : ∀ k : VP, B10 (N72 q A xs.length xs.length) 0 (some 6) k = k (.agg ⟨N72 q A xs.length xs.length⟩) := fun k => K26 k
    have hg4 : J0 H4 nx = some (.cells (Z16 q) 0) := by rw [hE34.get nx hnx2, (D0.low hE3).get nx hnx2]; exact hg2
    simp (config := { maxSteps := 2000000 }) (disch := first|omega|assumption) only [W0, hi', Y145, hbox, hc6]
    refine R0 (W148 q A xs xs.length _ _ hQ4 hS hN hAS hPx hx3) ?_
    rintro _ H5 n5 ⟨rfl, hE5⟩
    have hbox5 := (hE5.get n2 hlt).trans hbox
    have hg5 := (hE5.get nx (by omega)).trans hg4
    simp (config := { maxSteps := 2000000 }) (disch := first|omega|assumption) only [W0, K75, hg5, hc5]
    refine R0 (X138 q _ _ (hQ4.ext hE5) hS hN) ?_
    rintro _ H6 n6 ⟨rfl, hE6⟩
    have hE46 := hE5.trans hE6
    have hbox6 := (hE46.get n2 hlt).trans hbox
    simp (config := { maxSteps := 2000000 }) (disch := first|omega|assumption) only [W0, K75, hbox6, hc6]
    refine R0 (R146 q A xs xs.length _ _ (hAS.ext hE46) (fun x hx => (hPx x hx).ext hE46) hx3) ?_
    rintro _ H7 n7 ⟨rfl, hE7⟩
    have hE07 := hE04.trans (hE46.trans hE7)
    have hps := Q129 hS hN
    have has := Y134 xs 0 ⟨#[]⟩ hPx
    have z0 : (⟨#[]⟩ : ByteArray).size = 0 := rfl
    have z1 : (⟨#[113, 117, 101, 114, 121, 32]⟩ : ByteArray).size = 6 := rfl
    have z2 : (⟨#[10]⟩ : ByteArray).size = 1 := rfl
    have fin : Y2 Tryz.prog 7 [] H7 n7 fun b c d => .bool true = b /\ D0 H nx c d := by
      refine R0 (E134 H7 n7) ?_
      rintro _ H8 n8 ⟨rfl, hE8⟩
      exact ⟨rfl, hE07.trans hE8⟩
    by_cases hq : (V24 q).2 = 0
    · have d0 : decide ((V24 q).2 = 0) = true := by simp [hq]
      have hR : E123 q xs = if (K29 0 xs ⟨#[]⟩).2 = 0 then (⟨#[113, 117, 101, 114, 121, 32]⟩ ++ (V24 q).1 ++ ⟨#[10]⟩ ++ (K29 0 xs ⟨#[]⟩).1, 0) else (⟨#[]⟩, (K29 0 xs ⟨#[]⟩).2) := by
        rw [E123, if_neg (by simp [hq]), <- M134, M146]
      by_cases hc : (K29 0 xs ⟨#[]⟩).2 = 0
      · rw [if_pos hc] at hR
        have d1 : decide ((K29 0 xs ⟨#[]⟩).2 ≠ 0) = false := by simp [hc]
        have d2 : decide ((0 : Int) = 0) = true := rfl
        have a1 := fun k => E0 (⟨#[113, 117, 101, 114, 121, 32]⟩ : ByteArray) (V24 q).1 (by omega) k
        have a2 := fun k => E0 ((⟨#[113, 117, 101, 114, 121, 32]⟩ : ByteArray) ++ (V24 q).1) ⟨#[10]⟩ (by rw [ByteArray.size_append]; omega) k
        have a3 := fun k => E0 ((⟨#[113, 117, 101, 114, 121, 32]⟩ : ByteArray) ++ (V24 q).1 ++ ⟨#[10]⟩) (K29 0 xs ⟨#[]⟩).1 (by rw [ByteArray.size_append, ByteArray.size_append]; omega) k
        have d3 : decide (⟨#[113, 117, 101, 114, 121, 32]⟩ ++ (V24 q).1 ++ ⟨#[10]⟩ ++ (K29 0 xs ⟨#[]⟩).1 = (⟨#[113, 117, 101, 114, 121, 32]⟩ : ByteArray) ++ (V24 q).1 ++ ⟨#[10]⟩ ++ (K29 0 xs ⟨#[]⟩).1) = true := decide_eq_true rfl
        rw [hR]
        simp (config := { maxSteps := 2000000 }) (disch := first|omega|assumption) only [W0, K75, d0, N13, d1, a1, a2, a3, K5]
        exact fin
      · rw [if_neg hc] at hR
        have d1 : decide ((K29 0 xs ⟨#[]⟩).2 ≠ 0) = true := by simp [hc]
        have d2 : decide ((⟨#[]⟩ : ByteArray) = ⟨#[]⟩) = true := decide_eq_true rfl
        have d3 : decide ((K29 0 xs ⟨#[]⟩).2 = (K29 0 xs ⟨#[]⟩).2) = true := decide_eq_true rfl
        rw [hR]
        simp (config := { maxSteps := 2000000 }) (disch := first|omega|assumption) only [W0, K75, d0, N13, d1, K5]
        exact fin
    · have d0 : decide ((V24 q).2 = 0) = false := by simp [hq]
      have d1 : decide ((V24 q).2 ≠ 0) = true := by simp [hq]
      have hR : E123 q xs = (⟨#[]⟩, (V24 q).2) := by rw [E123, if_pos hq]
      have d2 : decide ((⟨#[]⟩ : ByteArray) = ⟨#[]⟩) = true := decide_eq_true rfl
      have d3 : decide ((V24 q).2 = (V24 q).2) = true := decide_eq_true rfl
      rw [hR]
      simp (config := { maxSteps := 2000000 }) (disch := first|omega|assumption) only [W0, K75, d0, N13, d1, K5]
      exact fin
end
end Go.Proofs.YthbdeaeghipliaaGreatDoor
