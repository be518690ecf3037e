/-
  Contracts: hypergraph.size,escapes,disjoint,the closure of smallestClique.
  Contract: hypergraph.smallestClique.
  Contracts: slices.Compare of numbers,hypergraph.Obstruction.
  Plain: the shortest paths between free vertices through others,and the walk along their stages.
  MADE BY PROGRAM (wip/gen/gen.py): functions 71 36 26 39 38 15 13 28 11 25 10 14 3 as marked code,and their claims written out.
  MADE BY PROGRAM (wip/gen/gen.py,from the IR of a piece of code): connex.walk up to its range over slices.Backward as marked code,and its claim written out.
  .
  Contracts: connex.around;connex.walk up to its range over slices.Backward.
  connex.walk: what stands before its range over slices.Backward.
  Maps from int to values.
  Plain: what is reached through some vertices.
-/
import Derived.Test.YtoiioigihocgbaaGreatDoorD14
import Derived.Test.YtoiioigihocgbaaGreatDoorD12
import Derived.KernelRfl
import Derived.Test.YtoiioigihocgbaaGreatDoorD4
import Derived.RangeFuncCalls
import Derived.Test.YtoiioigihocgbaaGreatDoorD10
set_option maxHeartbeats 8000000
set_option maxRecDepth 100000
set_option linter.all false
noncomputable section
open Array renaming replicate->fN
open Bool renaming and_eq_true->aG,eq_false_iff->bN,eq_iff_iff->eX,not_eq_true'->cJ,or_eq_true->cO
open Go.Instr renaming findNow->dP
open Go.Value renaming int->cD
open List renaming any_eq_true->dY,drop_of_length_le->cM,foldl_cons->dF,getD_eq_getElem?_getD->aP,getElem?_eq_getElem->aE,getElem?_eq_some_iff->aJ,getElem?_map->cP,getElem?_of_mem->cH,getElem?_set->cQ,length_append->bH,length_cons->cV,length_eq_zero_iff->dT,length_map->gM,length_take->cK,mem_append->dN,mem_append_left->dX,mem_of_getElem?->aH,mem_singleton->dJ,range->aY,replicate->aF,take_of_length_le->gJ
open List.cons renaming injEq->fM
open Nat renaming eq_of_beq_eq_true->bT,le_refl->aD,lt_of_le_of_lt->cE,pow_le_pow_right->aK,testBit_and->bI,two_pow_pos->aQ,zero_add->cF
open Option renaming elim_some->aN
namespace Go.Proofs.YtoiioigihocgbaaGreatDoor
open Go.Clo
section
variable {cl e i rest:Nat} {es:List Nat}
theorem Z95{x:Nat}(hx:x<64)(H:Y0)(nx:Nat):Q2 Tryz.prog 91 [.int .u32 (x:Int)] H nx fun r H' nx'=>r = .int .i64 (E9 x:Int)/\D0 H nx H' nx':=by
 refine spec91 ?_;unfold F91;refine R0 (R44 hx H nx) ?_;rintro _ H1 n1 ⟨rfl,h1⟩;simp(disch:=first|omega|assumption)only[W0];exact h1
def U82(es:List Nat)(cl rest i:Nat):Nat × Bool:=(es.take i).foldl (X78 cl rest) (0,false)
theorem C102(h:es[i]? = some e):U82 es cl rest (i+1)=X78 cl rest (U82 es cl rest i) e:=by
 unfold U82;rw[C7 h,List.foldl_append];rfl
def R80(es:List Nat)(cl rest i:Nat):Nat × Nat:=(es.take i).foldl (X74 cl rest) (0,0)
theorem C100(h:es[i]? = some e):R80 es cl rest (i+1)=X74 cl rest (R80 es cl rest i) e:=by
 unfold R80;rw[C7 h,List.foldl_append];rfl
section
variable {es aL:List Nat} {N:Nat} (hN:N<=6) (hsm:∀ e ∈ es,e<2^N) (hle:es.length<=8)
include hN hsm hle
theorem V86{cl rest:Nat}(a0:cl<2^N)(hr:rest<2^N)(A:Option Addr)(cap:Nat)(H:Y0)(nx:Nat)(hS:Sl H nx A (K12 es)):
  Q2 Tryz.prog 67 [gv (N:Int) A es.length cap,.int .u32 (cl:Int),.int .u32 (rest:Int)] H nx fun r H' nx'=>r = .tuple ⟨[.int .u32 ((C75 es cl rest).1:Int),.bool (C75 es cl rest).2]⟩/\D0 H nx H' nx':=by
 have a3:2^N<=64:=aK (n:=2) (by omega) hN;have Z:0<2^N:=aQ N;refine spec67 ?_;unfold F67;have Q:D0 H nx (hs H nx (some (.cells [.int .i64 (N:Int),.slice A es.length cap] 0))) (nx+1):=(D0.refl H nx).new _ (aD _) (by omega);simp(disch:=first|omega|assumption)only[W0,Z0,Q0.val];generalize hs H nx (some (.cells [.int .i64 (N:Int),.slice A es.length cap] 0))=H1 at *
 refine B1 (m:=es.length) (fun m L H' nx'=>∃ i:Nat,m+i=es.length/\L=[.int .u32 ((U82 es cl rest i).1:Int),.bool (U82 es cl rest i).2,.int .i64 (i:Int)]/\D0 H1 (nx+1) H' nx') ?_ ⟨0,by omega,rfl,D0.refl _ _⟩;rintro m ih L H2 n2 ⟨i,hm,rfl,e2⟩ a1
 by_cases hi:i<es.length
 case neg=>
  obtain rfl:i=es.length:=by omega
  have J:¬ (es.length:Int)<(es.length:Int):=by omega
  simp(disch:=first|omega|assumption)only[W0,J];have e:U82 es cl rest es.length=C75 es cl rest:=by unfold U82 C75;rw[List.take_length]
  rw[e];exact⟨rfl,Q.trans e2⟩
 have J:(i:Int)<(es.length:Int):=by omega
 obtain⟨e,he⟩:∃ e,es[i]? = some e:=⟨_,aE hi⟩
 have a7:=hsm e (aH he);obtain⟨B,o,row,rfl,a4,U,V⟩:=(hS.ext (Q.trans e2)).open (i:=i) (by rw[E1];omega);have q0:=V _ _ (Q3 he);have hb:=X91 (cl:=cl) hr (es.take i) (0,false) Z;have next:=C102 (cl:=cl) (rest:=rest) he;change (U82 es cl rest i).1<2^N at hb;generalize U82 es cl rest i=s at *
 obtain⟨b,cov⟩:=s;dsimp only at hb ⊢;have a6:Z2 rest e<2^N:=Z6 hr;have a5:Z2 cl e<2^N:=Z6 a0;have a8:e<4294967296:=by omega
 have a2:cl<4294967296:=by omega
 have W:rest<4294967296:=by omega
 have z1:decide ((Z2 cl e:Int)=0)=decide (Z2 cl e=0):=by congr 1;apply propext;omega
 simp(disch:=first|omega|assumption)only[W0,J,X3 U,q0];refine N5 (fun L' H' nx'=>L'=[.int .u32 ((X78 cl rest (b,cov) e).1:Int),.bool (X78 cl rest (b,cov) e).2]/\D0 H1 (nx+1) H' nx') ?_ ?_
 case refine_2=>
  rintro L H3 n3 ⟨rfl,e3⟩;exact a1 (m-1) _ _ _ (by omega) ⟨i+1,by omega,by rw[next];simp,e3⟩
 intro j hj;refine N5 (fun L' H' nx'=>L'=[.bool (decide (Z2 cl e=0)&&(!cov || decide (E9 (Z2 rest e)<E9 b)))]/\D0 H1 (nx+1) H' nx') ?_ ?_
 .intro jj E
  by_cases k0:Z2 cl e=0
  .cases cov with
   | false=>
    simp(disch:=first|omega|assumption)only[W0,decide_eq_true k0];exact E _ _ _ ⟨by simp[k0],e2⟩
   | true=>
    simp(disch:=first|omega|assumption)only[W0,decide_eq_true k0];refine R0 (Z95 (by omega) _ _) ?_;rintro _ H3 n3 ⟨rfl,h3⟩;refine R0 (Z95 (by omega) _ _) ?_;rintro _ H4 n4 ⟨rfl,h4⟩;have c1:decide ((E9 (Z2 rest e):Int)<(E9 b:Int))=decide (E9 (Z2 rest e)<E9 b):=by congr 1;apply propext;omega
    simp(disch:=first|omega|assumption)only[W0,c1];exact E _ _ _ ⟨by simp[k0],(e2.trans h3).trans h4⟩
  .simp(disch:=first|omega|assumption)only[W0,decide_eq_false k0]
   exact E _ _ _ ⟨by simp[k0],e2⟩
 rintro L H3 n3 ⟨rfl,e3⟩
 by_cases hc:Z2 cl e=0/\(cov=false\/E9 (Z2 rest e)<E9 b)
 .have O:(decide (Z2 cl e=0)&&(!cov || decide (E9 (Z2 rest e)<E9 b)))=true:=by
   rw[aG,cO,decide_eq_true_iff,decide_eq_true_iff];exact⟨hc.1,hc.2.imp (fun h=>by rw[h];rfl) id⟩
  have hs:X78 cl rest (b,cov) e=(Z2 rest e,true):=if_pos hc;rw[hs] at hj;rw[O];simp(disch:=first|omega|assumption)only[W0];exact hj _ _ _ ⟨rfl,e3⟩
 .have O:(decide (Z2 cl e=0)&&(!cov || decide (E9 (Z2 rest e)<E9 b)))=false:=by
   rw[bN];intro h;rw[aG,cO,decide_eq_true_iff,decide_eq_true_iff] at h;exact hc ⟨h.1,h.2.imp (fun h=>by simpa using h) id⟩
  have hs:X78 cl rest (b,cov) e=(b,cov):=if_neg hc;rw[hs] at hj;rw[O];simp(disch:=first|omega|assumption)only[W0];exact hj _ _ _ ⟨rfl,e3⟩
theorem M84{cl rest:Nat}(a0:cl<2^N)(hr:rest<2^N)(A:Option Addr)(cap:Nat)(H:Y0)(nx:Nat)(hS:Sl H nx A (K12 es)):
  Q2 Tryz.prog 68 [gv (N:Int) A es.length cap,.int .u32 (cl:Int),.int .u32 (rest:Int)] H nx fun r H' nx'=>r = .int .i64 ((C82 es cl rest).1:Int)/\D0 H nx H' nx':=by
 have a2:2^N<=64:=aK (n:=2) (by omega) hN;have Z:0<2^N:=aQ N;refine spec68 ?_;unfold F68;have Q:D0 H nx (hs H nx (some (.cells [.int .i64 (N:Int),.slice A es.length cap] 0))) (nx+1):=(D0.refl H nx).new _ (aD _) (by omega);simp(disch:=first|omega|assumption)only[W0,Z0,Q0.val];generalize hs H nx (some (.cells [.int .i64 (N:Int),.slice A es.length cap] 0))=H1 at *
 refine B1 (m:=es.length) (fun m L H' nx'=>∃ i:Nat,m+i=es.length/\L=[.int .i64 ((R80 es cl rest i).1:Int),.int .u32 ((R80 es cl rest i).2:Int),.int .i64 (i:Int)]/\H1=H'/\nx+1=nx') ?_ ⟨0,by omega,rfl,rfl,rfl⟩;rintro m ih L _ _ ⟨i,hm,rfl,rfl,rfl⟩ O
 by_cases hi:i<es.length
 case neg=>
  obtain rfl:i=es.length:=by omega
  have E:¬ (es.length:Int)<(es.length:Int):=by omega
  simp(disch:=first|omega|assumption)only[W0,E];have e:R80 es cl rest es.length=C82 es cl rest:=by unfold R80 C82;rw[List.take_length]
  rw[e];exact⟨rfl,Q⟩
 have E:(i:Int)<(es.length:Int):=by omega
 obtain⟨e,he⟩:∃ e,es[i]? = some e:=⟨_,aE hi⟩
 have a7:=hsm e (aH he);obtain⟨B,o,row,rfl,a8,U,V⟩:=(hS.ext Q).open (i:=i) (by rw[E1];omega);have q0:=V _ _ (Q3 he);have hb:=E98 (cl:=cl) hr (es.take i) (0,0) Z;have J:=V98 (cl:=cl) (rest:=rest) (es.take i) (0,0);have next:=C100 (cl:=cl) (rest:=rest) he;rw[cK] at J;change (R80 es cl rest i).2<2^N at hb;change (R80 es cl rest i).1<=0+_ at J;generalize R80 es cl rest i=s at *
 obtain⟨c,us⟩:=s;dsimp only at hb J ⊢;have a6:Z2 rest e<2^N:=Z6 hr;have a5:Z2 cl e<2^N:=Z6 a0;have a9:e<4294967296:=by omega
 have a1:cl<4294967296:=by omega
 have W:rest<4294967296:=by omega
 have a3:Z2 rest e<4294967296:=by omega
 have a4:us<4294967296:=by omega
 have z1:decide ((Z2 cl e:Int)=0)=decide (Z2 cl e=0):=by congr 1;apply propext;omega
 have z2:decide (((Z2 rest e &&& us:Nat):Int)=0)=decide (Z2 rest e &&& us=0):=by congr 1;apply propext;omega
 simp(disch:=first|omega|assumption)only[W0,E,X3 U,q0];rw[N13]
 by_cases k0:Z2 cl e=0
 .by_cases k1:Z2 rest e &&& us=0
  .have hs:X74 cl rest (c,us) e=(c+1,us ||| Z2 rest e):=if_pos ⟨k0,k1⟩
   simp(disch:=first|omega|assumption)only[W0,N13,decide_eq_true k0,decide_eq_true k1];exact O (m-1) _ _ _ (by omega) ⟨i+1,by omega,by rw[next,hs];simp,rfl,rfl⟩
  .have hs:X74 cl rest (c,us) e=(c,us):=if_neg fun h=>k1 h.2
   simp(disch:=first|omega|assumption)only[W0,N13,decide_eq_true k0,decide_eq_false k1];exact O (m-1) _ _ _ (by omega) ⟨i+1,by omega,by rw[next,hs];simp,rfl,rfl⟩
 .have hs:X74 cl rest (c,us) e=(c,us):=if_neg fun h=>k0 h.1
  simp(disch:=first|omega|assumption)only[W0,N13,decide_eq_false k0];exact O (m-1) _ _ _ (by omega) ⟨i+1,by omega,by rw[next,hs];simp,rfl,rfl⟩
end
structure PoE (es aL:List Nat) (N:Nat) (A:Option Addr) (cap q2 q17 q4:Nat) (H:Y0) (m:Nat):Prop where
 g2:J0 H q2=some (.cells [.int .i64 (N:Int),.slice A es.length cap] 0)
 g4:J0 H q4=some (.cells (K12 aL) 0)
 g17:J0 H q17=some (.cells [.func (.func 66) ⟨[]⟩ ⟨[.pointer (some ⟨q2,0,none⟩),.pointer (some ⟨q17,0,none⟩),.pointer (some ⟨q4,0,none⟩)]⟩] 0)
 eS:Sl H m A (K12 es)
 l2:q2<m
 l4:q4<m
 l17:q17<m
theorem PoE.ext{es aL:List Nat}{N:Nat}{A:Option Addr}{cap q2 q17 q4:Nat}{H:Y0}{m:Nat}(h:PoE es aL N A cap q2 q17 q4 H m){H':Y0}{m':Nat}(e:D0 H m H' m'):PoE es aL N A cap q2 q17 q4 H' m':=by
 have a1:=h.l2;have a2:=h.l4;have a3:=h.l17;have a4:=e.le;exact⟨(e.get _ a1).trans h.g2,(e.get _ a2).trans h.g4,(e.get _ a3).trans h.g17,h.eS.ext e,by omega,by omega,by omega⟩
section
variable {es aL:List Nat} {N:Nat} (hN:N<=6) (hsm:∀ e ∈ es,e<2^N) (hle:es.length<=8) (hL:NbL aL N)
include hN hsm hle hL
theorem C84 {A:Option Addr} {cap q2 q17 q4:Nat}:∀ (c cl rest:Nat) (H:Y0) (m:Nat),c<=100->cl<2^N->rest<2^N->PoE es aL N A cap q2 q17 q4 H m ->
  Q2 Tryz.prog 66 [.int .u32 (cl:Int),.int .u32 (rest:Int),.int .i64 (c:Int),.pointer (some ⟨q2,0,none⟩),.pointer (some ⟨q17,0,none⟩),.pointer (some ⟨q4,0,none⟩)] H m
   fun r H' m'=>r = .bool (W51 es aL N c cl rest)/\D0 H m H' m':=by
 have hp64:2^N<=64:=Nat.pow_le_pow_right (n:=2) (by omega) hN
 have hp1:0<2^N:=Nat.two_pow_pos N
 intro c
 induction c with
 | zero=>
  intro cl rest H m hc100 hcl hr hP
  refine spec66 ?_
  unfold F66
  simp (disch:=first|omega|assumption|exact G0 (by assumption)|exact U10 (by assumption)|exact X0 (by omega)|fail) only[W0,hP.g2,C13]
  refine R0 (V86 hN hsm hle hcl hr A cap _ _ hP.eS) ?_
  rintro _ H1 n1 ⟨rfl,h1⟩
  have hP1:=hP.ext h1
  have hd:=Z107 (es:=es) (cl:=cl) (rest:=rest)
  unfold W51
  generalize C75 es cl rest=s at *
  obtain⟨out,cov⟩:=s
  dsimp only at hd ⊢
  cases cov with
  | false=>
   simp (disch:=first|omega|assumption|exact G0 (by assumption)|exact U10 (by assumption)|exact X0 (by omega)|fail) only[W0]
   exact h1
  | true=>
   have hd:=hd rfl
   simp (disch:=first|omega|assumption|exact G0 (by assumption)|exact U10 (by assumption)|exact X0 (by omega)|fail) only[W0]
   refine N5 (fun L' H' nx'=>L'=[.bool true]/\D0 H m H' nx') ?_ ?_
   .intro jj hjj
    by_cases k0:out=0
    .subst k0
     simp (disch:=first|omega|assumption|exact G0 (by assumption)|exact U10 (by assumption)|exact X0 (by omega)|fail) only[W0]
     exact hjj _ _ _ ⟨rfl,h1⟩
    .simp (disch:=first|omega|assumption|exact G0 (by assumption)|exact U10 (by assumption)|exact X0 (by omega)|fail) only[W0,decide_eq_false k0,hP1.g2,C13]
     refine R0 (M84 hN hsm hle hcl hr A cap _ _ hP1.eS) ?_
     rintro _ H2 n2 ⟨rfl,h2⟩
     simp (disch:=first|omega|assumption|exact G0 (by assumption)|exact U10 (by assumption)|exact X0 (by omega)|fail) only[W0]
     exact hjj _ _ _ ⟨by simp;omega,h1.trans h2⟩
   .rintro L H2 n2 ⟨rfl,h2⟩
    simp (disch:=first|omega|assumption|exact G0 (by assumption)|exact U10 (by assumption)|exact X0 (by omega)|fail) only[W0]
    exact h2
 | succ c ih=>
  intro cl rest H m hc100 hcl hr hP
  refine spec66 ?_
  unfold F66
  simp (disch:=first|omega|assumption|exact G0 (by assumption)|exact U10 (by assumption)|exact X0 (by omega)|fail) only[W0,hP.g2,C13]
  refine R0 (V86 hN hsm hle hcl hr A cap _ _ hP.eS) ?_
  rintro _ H1 n1 ⟨rfl,h1⟩
  have hP1:=hP.ext h1
  unfold W51
  have hout:=X91 (cl:=cl) hr es (0,false) hp1
  change (C75 es cl rest).1<2^N at hout
  generalize C75 es cl rest=s at *
  obtain⟨out,cov⟩:=s
  dsimp only at hout ⊢
  cases cov with
  | false=>
   simp (disch:=first|omega|assumption|exact G0 (by assumption)|exact U10 (by assumption)|exact X0 (by omega)|fail) only[W0]
   exact⟨rfl,h1⟩
  | true=>
   simp (disch:=first|omega|assumption|exact G0 (by assumption)|exact U10 (by assumption)|exact X0 (by omega)|fail) only[W0]
   refine N5 (fun L' H' nx'=>L'=[.bool (!(decide (out≠0)&&decide ((C82 es cl rest).1<=c+1)))]/\D0 H m H' nx') ?_ ?_
   .intro jj hjj
    by_cases k0:out=0
    .subst k0
     simp (disch:=first|omega|assumption|exact G0 (by assumption)|exact U10 (by assumption)|exact X0 (by omega)|fail) only[W0]
     exact hjj _ _ _ ⟨by simp,h1⟩
    .simp (disch:=first|omega|assumption|exact G0 (by assumption)|exact U10 (by assumption)|exact X0 (by omega)|fail) only[W0,decide_eq_false k0,hP1.g2,C13]
     refine R0 (M84 hN hsm hle hcl hr A cap _ _ hP1.eS) ?_
     rintro _ H2 n2 ⟨rfl,h2⟩
     have z2:decide (((C82 es cl rest).1:Int) > ((c+1:Nat):Int)) = !decide ((C82 es cl rest).1<=c+1):=by
      rw[Bool.eq_iff_iff,decide_eq_true_iff,Bool.not_eq_true',decide_eq_false_iff_not];omega
     simp (disch:=first|omega|assumption|exact G0 (by assumption)|exact U10 (by assumption)|exact X0 (by omega)|fail) only[W0,z2]
     exact hjj _ _ _ ⟨by simp[k0],h1.trans h2⟩
   rintro L H2 n2 ⟨rfl,h2⟩
   have hP2:=hP.ext h2
   cases hgo:decide (out≠0)&&decide ((C82 es cl rest).1<=c+1) with
   | false=>
    simp (disch:=first|omega|assumption|exact G0 (by assumption)|exact U10 (by assumption)|exact X0 (by omega)|fail) only[W0]
    exact⟨rfl,h2⟩
   | true=>
    simp (disch:=first|omega|assumption|exact G0 (by assumption)|exact U10 (by assumption)|exact X0 (by omega)|fail) only[W0,hP2.g2]
    refine B1 (m:=N) (fun q L' H' nx'=>∃ v:Nat,q+v=N/\L'=[.int .u32 (N71 rest out v:Int),.int .i64 (v:Int)]/\(∀ u,u<v->(out.testBit u&&W51 es aL N c (cl ||| 2^u) (N71 rest out (u+1) &&& aL.getD u 0))=false)/\D0 H m H' nx') ?_ ⟨0,by omega,rfl,fun u h=>by omega,h2⟩
    rintro q ihq L' H3 n3 ⟨v,hq,rfl,hno,e3⟩ hihq
    have hP3:=hP.ext e3
    have hrl:=D85 (out:=out) hr v
    have hrl1:=D85 (out:=out) hr (v+1)
    by_cases hv:v<N
    case neg=>
     obtain rfl:v=N:=by omega
     have hv':¬ (v:Int)<(v:Int):=by omega
     simp (disch:=first|omega|assumption|exact G0 (by assumption)|exact U10 (by assumption)|exact X0 (by omega)|fail) only[W0,hv']
     refine⟨?_,e3⟩
     have:((List.range v).any fun u=>out.testBit u&&W51 es aL v c (cl ||| 2^u) (N71 rest out (u+1) &&& aL.getD u 0))=false:=by
      rw[Bool.eq_false_iff]
      intro h
      obtain⟨u,hu1,hu2⟩:=List.any_eq_true.1 h
      rw[hno u (by simpa using hu1)] at hu2
      cases hu2
     rw[this];rfl
    have hv':(v:Int)<(N:Int):=by omega
    have v32:v<32:=by omega
    have out32:out<4294967296:=by omega
    have next:(out.testBit v&&W51 es aL N c (cl ||| 2^v) (N71 rest out (v+1) &&& aL.getD v 0))=false->∀ u,u<v+1->(out.testBit u&&W51 es aL N c (cl ||| 2^u) (N71 rest out (u+1) &&& aL.getD u 0))=false:=fun h u hu=>by
     by_cases e:u=v
     .subst e;exact h
     .exact hno u (by omega)
    obtain⟨xv,gv',xv2,xvD⟩:=hL.at v32
    have gv':=Q3 gv'
    have hstep:N71 rest out (v+1)=if out.testBit v=true then Z2 (N71 rest out v) (2^v) else N71 rest out v:=rfl
    cases hbit:out.testBit v with
    | false=>
     rw[hbit,if_neg (by simp)] at hstep
     simp (disch:=first|omega|assumption|exact G0 (by assumption)|exact U10 (by assumption)|exact X0 (by omega)|fail) only[W0,hv',N13,hbit]
     exact hihq (q-1) _ _ _ (by omega) ⟨v+1,by omega,by rw[hstep];simp,next (by rw[hbit];rfl),e3⟩
    | true=>
     rw[hbit,if_pos rfl] at hstep
     rw[hstep] at hrl1
     have pv2:=R27 hv
     have pv:2^v<4294967296:=by omega
     have cl32:cl<4294967296:=by omega
     have rl32:N71 rest out v<4294967296:=by omega
     have rl1:Z2 (N71 rest out v) (2^v)<4294967296:=by omega
     have xv32:xv<4294967296:=by omega
     have clv:cl ||| 2^v<2^N:=Z26 hcl pv2
     have rv:Z2 (N71 rest out v) (2^v) &&& xv<2^N:=W37 hrl1
     have ec:((c+1:Nat):Int)-1=(c:Int):=by omega
     simp (disch:=first|omega|assumption|exact G0 (by assumption)|exact U10 (by assumption)|exact X0 (by omega)|fail) only[W0,hv',N13,hbit,hP3.g17,hP3.g4,gv',ec]
     refine V22 (ih (cl ||| 2^v) (Z2 (N71 rest out v) (2^v) &&& xv) H3 (n3+13) (by omega) clv rv (hP3.ext (D0.self (by omega)))) ?_
     rintro _ H4 n4 ⟨rfl,h4⟩
     have e4:=(e3.more (show n3<=n3+13 by omega)).trans h4
     have hval:W51 es aL N c (cl ||| 2^v) (N71 rest out (v+1) &&& aL.getD v 0)=W51 es aL N c (cl ||| 2^v) (Z2 (N71 rest out v) (2^v) &&& xv):=by rw[hstep,xvD]
     cases hp:W51 es aL N c (cl ||| 2^v) (Z2 (N71 rest out v) (2^v) &&& xv) with
     | true=>
      simp (disch:=first|omega|assumption|exact G0 (by assumption)|exact U10 (by assumption)|exact X0 (by omega)|fail) only[W0]
      refine⟨?_,e4⟩
      have:((List.range N).any fun u=>out.testBit u&&W51 es aL N c (cl ||| 2^u) (N71 rest out (u+1) &&& aL.getD u 0))=true:=List.any_eq_true.2 ⟨v,by simpa using hv,by rw[hbit,hval,hp];rfl⟩
      rw[this];rfl
     | false=>
      simp (disch:=first|omega|assumption|exact G0 (by assumption)|exact U10 (by assumption)|exact X0 (by omega)|fail) only[W0]
      exact hihq (q-1) _ _ _ (by omega) ⟨v+1,by omega,by rw[hstep];simp,next (by rw[hbit,hval,hp];rfl),e4⟩
end
end
end Go.Proofs.YtoiioigihocgbaaGreatDoor
namespace Go.Clo
theorem R104{es:List Nat}{i e:Nat}(h:es[i]? = some e):(es.take (i+1)).foldl (· ||| ·) 0=(es.take i).foldl (· ||| ·) 0 ||| e:=by
 rw[take_next' h,List.foldl_append];rfl
where
 take_next' {α:Type} {l:List α} {i:Nat} {x:α} (h:l[i]? = some x):l.take (i+1)=l.take i++[x]:=by
  rw[List.take_add_one,h];rfl
theorem K88{N:Nat}:∀ {es:List Nat} {a:Nat},(∀ e ∈ es,e<2^N)->a<2^N->es.foldl (· ||| ·) a<2^N
 | [],a,_,h=>h
 | e :: es,a,h,ha=>by
  rw[dF];exact K88 (fun x hx=>h x (by simp[hx])) (Z26 ha (h e (by simp)))
def G80(lo:Nat)(H:Y0)(nx:Nat)(v:Value)(l:List Nat):Prop:=Acc lo H nx 1 v l.length (U4 (l.map fun(x:Nat)=>(x:Int)))/\(l=[]->v = .slice none 0 0)
theorem G80.ext{lo:Nat}{H:Y0}{nx:Nat}{v:Value}{l:List Nat}{H':Y0}{nx':Nat}(h:G80 lo H nx v l)(e:D0 H nx H' nx'):G80 lo H' nx' v l:=⟨h.1.ext e,h.2⟩
theorem G80.ls{lo:Nat}{H:Y0}{nx:Nat}{v:Value}{l:List Nat}(h:G80 lo H nx v l):LsR l v H nx:=by
 obtain⟨A,rfl,hS⟩:=h.1.sl;refine⟨A,rfl,⟨fun e => ?_,fun e => ?_⟩,hS⟩
 .subst e
  cases l with
  | nil=>rfl
  | cons x l=>
   obtain⟨b,o,row,e,_⟩:=hS.open (i:=0) (by simp[U4])
   cases e
 .have:=h.2 e
  injection this
theorem G80.app{lo:Nat}{H:Y0}{nx b cap v:Nat}{sv:Value}{l:List Nat}{H0:Y0}{k:EP}(hA:G80 lo H nx sv l)(hg:J0 H b=some (.cells [.int .i64 (v:Int)] 0))(J:l.length<=1000)(hE:D0 H0 lo H nx)(E:lo<=nx)
  (hk:∀ v' H',G80 lo H' (nx+1) v' (l++[v])->D0 H0 lo H' (nx+1)->k v' H' (nx+1)):B5 sv (.slice (some ⟨b,0,none⟩) 1 cap) 1 8 H nx k:=by
 refine Y20 (H0:=H0) (by omega) hA.1 (J9 (cap:=cap) hg rfl (by omega)) (by omega) rfl (by omega) (by omega) hE E ?_;intro v' H' a1 a2 _;refine hk v' H' ⟨?_,fun e=>by simp at e⟩ a2;have e:U4 (l.map fun(x:Nat)=>(x:Int))++[.int .i64 (v:Int)]=U4 ((l++[v]).map fun(x:Nat)=>(x:Int)):=by simp[U4]
 rw[e] at a1;rw[bH];exact a1
theorem V90{es aL:List Nat}{N L lk:Nat}(E:lk<2^N):∀ v,v<=N->(W76 es aL N L lk v).2.1<2^N/\(W76 es aL N L lk v).2.2<2^N/\(W76 es aL N L lk v).1.length<=v
 | 0,_=>⟨aQ N,E,aD _⟩
 | v+1,hv=>by
  obtain⟨h1,h2,h3⟩:=V90 (es:=es) (aL:=aL) (L:=L) E v (by omega);have pv:2^v<2^N:=R27 (by omega);unfold W76 W99
  split
  .split
   .exact⟨Z26 h1 pv,W37 (Z6 h2),by simp;omega⟩
   .exact⟨h1,Z6 h2,by show(W76 es aL N L lk v).1.length<=v+1;omega⟩
  .exact⟨h1,h2,by omega⟩
end Go.Clo
namespace Go.Proofs.YtoiioigihocgbaaGreatDoor
open Go.Clo
section
variable {es aL:List Nat} {N:Nat} (hN:N<=6) (hsm:∀ e ∈ es,e<2^N) (hle:es.length<=8) (hL:NbL aL N)
include hN hsm hle hL
theorem D84 {most:Nat} (hmost:most<=50) (A:Option Addr) (cap:Nat) (H:Y0) (nx:Nat) (hS:Sl H nx A (K12 es)):
  Q2 Tryz.prog 31 [gv (N:Int) A es.length cap,.agg ⟨K12 aL⟩,.int .i64 (most:Int)] H nx fun r H' nx'=>LsR (D83 es aL N most) r H' nx'/\D0 H nx H' nx':=by
 have hp64:2^N<=64:=Nat.pow_le_pow_right (n:=2) (by omega) hN
 have hp1:0<2^N:=Nat.two_pow_pos N
 have hput:∀ a b:Value,B12 [a] 0 [b]=[b]:=fun _ _=>rfl
 refine spec31 ?_
 unfold F31
 have hE0:D0 H nx (hs (hs H nx (some (.cells [.int .i64 (N:Int),.slice A es.length cap] 0))) (nx+1) (some (.cells (K12 aL) 0))) (nx+1+1):=((D0.refl H nx).new _ (Nat.le_refl _) (m:=nx+1) (by omega)).new _ (by omega) (by omega)
 have g2:J0 (hs (hs H nx (some (.cells [.int .i64 (N:Int),.slice A es.length cap] 0))) (nx+1) (some (.cells (K12 aL) 0))) nx=some (.cells [.int .i64 (N:Int),.slice A es.length cap] 0):=by rw[Z1 _ (by omega),Z11]
 have g4:J0 (hs (hs H nx (some (.cells [.int .i64 (N:Int),.slice A es.length cap] 0))) (nx+1) (some (.cells (K12 aL) 0))) (nx+1)=some (.cells (K12 aL) 0):=Z11 _ _ _
 simp (disch:=first|omega|assumption|exact G0 (by assumption)|exact U10 (by assumption)|exact X0 (by omega)|fail) only[W0,Z0,Q0.val,W5 aL]
 generalize hs (hs H nx (some (.cells [.int .i64 (N:Int),.slice A es.length cap] 0))) (nx+1) (some (.cells (K12 aL) 0))=H1 at *
 refine B1 (m:=es.length) (fun m L' H' nx'=>∃ i:Nat,m+i=es.length/\L'=[.int .u32 ((es.take i).foldl (· ||| ·) 0:Nat),.int .i64 (i:Int)]/\H1=H'/\nx+1+1=nx') ?_ ⟨0,by omega,rfl,rfl,rfl⟩
 rintro m ih L1 _ _ ⟨i,hm,rfl,rfl,rfl⟩ hih
 have hlk:=K88 (es:=es.take i) (a:=0) (fun e he=>hsm e (List.mem_of_mem_take he)) hp1
 by_cases hi:i<es.length
 .have hi':(i:Int)<(es.length:Int):=by omega
  obtain⟨e,he⟩:∃ e,es[i]? = some e:=⟨_,List.getElem?_eq_getElem hi⟩
  have he2:=hsm e (List.mem_of_getElem? he)
  have e32:e<4294967296:=by omega
  have lk32:(es.take i).foldl (· ||| ·) 0<4294967296:=by omega
  obtain⟨B,o,row,rfl,hBn,hrow,hget⟩:=(hS.ext hE0).open (i:=i) (by rw[E1];omega)
  have q0:=hget _ _ (Q3 he)
  simp (disch:=first|omega|assumption|exact G0 (by assumption)|exact U10 (by assumption)|exact X0 (by omega)|fail) only[W0,hi',X3 hrow,q0]
  exact hih (m-1) _ _ _ (by omega) ⟨i+1,by omega,by rw[R104 he];simp,rfl,rfl⟩
 have hi':¬ (i:Int)<(es.length:Int):=by omega
 rw[List.take_of_length_le (by omega)] at hlk
 rw[List.take_of_length_le (show es.length<=i by omega)]
 clear hih
 have hor:es.foldl (· ||| ·) 0=Z7 es:=rfl
 rw[hor] at hlk ⊢
 unfold D83
 generalize Z7 es=lk at *
 by_cases h0:lk=0
 .simp (disch:=first|omega|assumption|exact G0 (by assumption)|exact U10 (by assumption)|exact X0 (by omega)|fail) only[W0,hi',decide_eq_true h0]
  rw[if_pos (.inl h0)]
  exact⟨C66 _ _,hE0⟩
 simp (disch:=first|omega|assumption|exact G0 (by assumption)|exact U10 (by assumption)|exact X0 (by omega)|fail) only[W0,hi',decide_eq_false h0,hput]
 have hE3:D0 H1 (nx+1+1) (hs (hs H1 (nx+1+1) (some (.cells [.nilFunc] 0))) (nx+1+1) (some (.cells [.func (.func 66) ⟨[]⟩ ⟨[.pointer (some ⟨nx,0,none⟩),.pointer (some ⟨nx+1+1,0,none⟩),.pointer (some ⟨nx+1,0,none⟩)]⟩] 0))) (nx+1+1+1):=((D0.refl H1 (nx+1+1)).new _ (Nat.le_refl _) (m:=nx+1+1+1) (by omega)).hs (Nat.le_refl _)
 have g17:J0 (hs (hs H1 (nx+1+1) (some (.cells [.nilFunc] 0))) (nx+1+1) (some (.cells [.func (.func 66) ⟨[]⟩ ⟨[.pointer (some ⟨nx,0,none⟩),.pointer (some ⟨nx+1+1,0,none⟩),.pointer (some ⟨nx+1,0,none⟩)]⟩] 0))) (nx+1+1)=some (.cells [.func (.func 66) ⟨[]⟩ ⟨[.pointer (some ⟨nx,0,none⟩),.pointer (some ⟨nx+1+1,0,none⟩),.pointer (some ⟨nx+1,0,none⟩)]⟩] 0):=Z11 _ _ _
 generalize hs (hs H1 (nx+1+1) (some (.cells [.nilFunc] 0))) (nx+1+1) (some (.cells [.func (.func 66) ⟨[]⟩ ⟨[.pointer (some ⟨nx,0,none⟩),.pointer (some ⟨nx+1+1,0,none⟩),.pointer (some ⟨nx+1,0,none⟩)]⟩] 0))=H3 at *
 have hX:PoE es aL N A cap nx (nx+1+1) (nx+1) H3 (nx+1+1+1):=⟨(hE3.get nx (by omega)).trans g2,(hE3.get (nx+1) (by omega)).trans g4,g17,(hS.ext hE0).ext hE3,by omega,by omega,by omega⟩
 have hE03:=hE0.trans hE3
 clear g2 g4 g17
 generalize hP:(fun L=>W51 es aL N L 0 lk)=P
 have hPv:∀ L,P L=W51 es aL N L 0 lk:=fun L=>by rw[<- hP]
 generalize hfull:B86 P (most-2) 3=full
 refine B1 (m:=most) (fun m L' H' nx'=>∃ k L:Nat,L'=[.int .i64 (L:Int)]/\B86 P k L=full/\(k+L=most+1\/(k=0/\most<L))/\(L<=most->m+L=most+3)/\3<=L/\L<=most+3/\D0 H3 (nx+1+1+1) H' nx') ?_
  ⟨most-2,3,rfl,hfull,by omega,by omega,by omega,by omega,D0.refl _ _⟩
 rintro m4 ih4 L1 H4 n4 ⟨k,L,rfl,hlen,hkL,hmL,hL3,hLm,e4⟩ hih4
 have hX4:=hX.ext e4
 have fin:∀ (r:Prop),(L<=most->P L=true->r)->(most<L->r)->(L<=most->P L=false->r)->r:=fun r h1 h2 h3=>by
  by_cases h:L<=most
  .cases hp:P L with
   | true=>exact h1 h hp
   | false=>exact h3 h hp
  .exact h2 (by omega)
 have c1:decide ((L:Int)<=(most:Int))=decide (L<=most):=by congr 1;apply propext;omega
 have c2:decide ((L:Int) > (most:Int))=decide (most<L):=by congr 1;apply propext;omega
 refine N5 (fun L' H' nx'=>L'=[.bool (decide (L<=most) && !P L)]/\D0 H3 (nx+1+1+1) H' nx') ?_ ?_
 .intro jj hjj
  by_cases hLe:L<=most
  .simp (disch:=first|omega|assumption|exact G0 (by assumption)|exact U10 (by assumption)|exact X0 (by omega)|fail) only[W0,c1,decide_eq_true hLe,hX4.g17]
   refine V22 (C84 hN hsm hle hL L 0 lk H4 n4 (by omega) hp1 hlk hX4) ?_
   rintro _ H5 n5 ⟨rfl,h5⟩
   simp (disch:=first|omega|assumption|exact G0 (by assumption)|exact U10 (by assumption)|exact X0 (by omega)|fail) only[W0]
   exact hjj _ _ _ ⟨by simp[hLe,hPv],e4.trans h5⟩
  .simp (disch:=first|omega|assumption|exact G0 (by assumption)|exact U10 (by assumption)|exact X0 (by omega)|fail) only[W0,c1,decide_eq_false hLe]
   exact hjj _ _ _ ⟨by simp[hLe],e4⟩
 rintro L1 H5 n5 ⟨rfl,e5⟩
 have hX5:=hX.ext e5
 by_cases hgo:L<=most/\P L=false
 .have hg:(decide (L<=most) && !P L)=true:=by simp[hgo.1,hgo.2]
  rw[hg]
  simp (disch:=first|omega|assumption|exact G0 (by assumption)|exact U10 (by assumption)|exact X0 (by omega)|fail) only[W0]
  obtain⟨k',rfl⟩:∃ k',k=k'+1:=⟨k-1,by omega⟩
  rw[B86,if_neg (by rw[hgo.2];simp)] at hlen
  exact hih4 (m4-1) _ _ _ (by omega) ⟨k',L+1,by simp,hlen,by omega,by omega,by omega,by omega,e5⟩
 have hg:(decide (L<=most) && !P L)=false:=by
  rw[Bool.eq_false_iff]
  intro h
  rw[Bool.and_eq_true,decide_eq_true_iff] at h
  exact hgo ⟨h.1,by simpa using h.2⟩
 rw[hg]
 have hfl:full=L:=by
  rcases hkL with h | ⟨h,_⟩
  .cases k with
   | zero=>exact hlen.symm
   | succ k=>
    have hp:P L=true:=by
     cases hp:P L with
     | true=>rfl
     | false=>exact absurd ⟨by omega,hp⟩ hgo
    rw[B86,if_pos hp] at hlen
    exact hlen.symm
  .subst h;exact hlen.symm
 by_cases hLe:L<=most
 case neg=>
  simp (disch:=first|omega|assumption|exact G0 (by assumption)|exact U10 (by assumption)|exact X0 (by omega)|fail) only[W0,c2,decide_eq_true (show most<L by omega)]
  rw[if_pos (.inr (by omega))]
  exact⟨C66 _ _,hE03.trans e5⟩
 rw[if_neg (by rw[hfl];omega),hfl]
 simp (disch:=first|omega|assumption|exact G0 (by assumption)|exact U10 (by assumption)|exact X0 (by omega)|fail) only[W0,c2,decide_eq_false (show ¬ most<L by omega),hX5.g2]
 refine B1 (m:=N) (fun q L' H' nx'=>∃ (v:Nat) (sv:Value),q+v=N/\L'=[sv,.int .u32 ((W76 es aL N L lk v).2.1:Int),.int .u32 ((W76 es aL N L lk v).2.2:Int),.int .i64 (v:Int)]/\G80 n5 H' nx' sv (W76 es aL N L lk v).1/\D0 H5 n5 H' nx') ?_
  ⟨0,_,by omega,rfl,⟨Acc.nil _ _ _ _,fun _=>rfl⟩,D0.refl _ _⟩
 rintro q ihq L1 H6 n6 ⟨v,sv,hq,rfl,hA,e6⟩ hihq
 have hX6:=hX5.ext e6
 by_cases hv:v<N
 case neg=>
  obtain rfl:v=N:=by omega
  have hv':¬ (v:Int)<(v:Int):=by omega
  simp (disch:=first|omega|assumption|exact G0 (by assumption)|exact U10 (by assumption)|exact X0 (by omega)|fail) only[W0,hv']
  exact⟨hA.ls,(hE03.trans e5).trans e6⟩
 have hv':(v:Int)<(N:Int):=by omega
 obtain⟨b1,b2,b3⟩:=V90 (es:=es) (aL:=aL) (L:=L) hlk v (by omega)
 have next:W76 es aL N L lk (v+1)=W99 es aL N L v (W76 es aL N L lk v):=rfl
 generalize W76 es aL N L lk v=s at *
 obtain⟨l,cl,r⟩:=s
 unfold W99 at next
 dsimp only at b1 b2 b3 hA next ⊢
 obtain⟨SA,rfl,hAn,hAS⟩:=hA.ls
 obtain⟨xv,gv',xv2,xvD⟩:=hL.at (u:=v) (by omega)
 have gv':=Q3 gv'
 have pv2:=R27 hv
 have pv:2^v<4294967296:=by omega
 have cl32:cl<4294967296:=by omega
 have r32:r<4294967296:=by omega
 have nd2:Z2 r (2^v)<2^N:=Z6 b2
 have nd32:Z2 r (2^v)<4294967296:=by omega
 have xv32:xv<4294967296:=by omega
 have clv2:cl ||| 2^v<2^N:=Z26 b1 pv2
 have ra2:Z2 r (2^v) &&& xv<2^N:=W37 nd2
 have v32:v<32:=by omega
 have hle6:=e6.le
 rw[xvD] at next
 cases hbit:r.testBit v with
 | false=>
  rw[hbit,if_neg (by simp)] at next
  simp (disch:=first|omega|assumption|exact G0 (by assumption)|exact U10 (by assumption)|exact X0 (by omega)|fail) only[W0,hv',N13,hbit]
  exact hihq (q-1) _ _ _ (by omega) ⟨v+1,.slice SA l.length l.length,by omega,by rw[next];simp,by rw[next];exact hA,e6⟩
 | true=>
  rw[hbit,if_pos rfl] at next
  simp (disch:=first|omega|assumption|exact G0 (by assumption)|exact U10 (by assumption)|exact X0 (by omega)|fail) only[W0,hv',hbit]
  rw[N13]
  have c3:decide ((l.length:Int)<(L:Int))=decide (l.length<L):=by congr 1;apply propext;omega
  refine N5 (fun L' H' nx'=>L'=[.bool (decide (l.length<L)&&W51 es aL N (L-l.length-1) (cl ||| 2^v) (Z2 r (2^v) &&& xv))]/\D0 H6 n6 H' nx') ?_ ?_
  .intro jj hjj
   by_cases hll:l.length<L
   .have ec:(L:Int)-(l.length:Int)-1=((L-l.length-1:Nat):Int):=by omega
    simp (disch:=first|omega|assumption|exact G0 (by assumption)|exact U10 (by assumption)|exact X0 (by omega)|fail) only[W0,c3,decide_eq_true hll,hX6.g17,hX6.g4,gv',ec]
    refine V22 (C84 hN hsm hle hL (L-l.length-1) (cl ||| 2^v) (Z2 r (2^v) &&& xv) H6 (n6+22) (by omega) clv2 ra2 (hX6.ext (D0.self (by omega)))) ?_
    rintro _ H7 n7 ⟨rfl,h7⟩
    exact hjj _ _ _ ⟨by simp[hll],h7.less (by omega)⟩
   .simp (disch:=first|omega|assumption|exact G0 (by assumption)|exact U10 (by assumption)|exact X0 (by omega)|fail) only[W0,c3,decide_eq_false hll]
    exact hjj _ _ _ ⟨by simp[hll],D0.self (by omega)⟩
  rintro L1 H7 n7 ⟨rfl,e7⟩
  have hX7:=hX6.ext e7
  have hle7:=e7.le
  by_cases hc:l.length<L/\W51 es aL N (L-l.length-1) (cl ||| 2^v) (Z2 r (2^v) &&& xv)=true
  .have hc':(decide (l.length<L)&&W51 es aL N (L-l.length-1) (cl ||| 2^v) (Z2 r (2^v) &&& xv))=true:=by rw[Bool.and_eq_true,decide_eq_true_iff];exact hc
   rw[hc']
   rw[if_pos hc] at next
   have hbs:∀ (x:Int) k,K6 1 1 [.int .i64 0] [(0,.int .i64 x)] k=k [.int .i64 x]:=fun x k=>rfl
   simp (disch:=first|omega|assumption|exact G0 (by assumption)|exact U10 (by assumption)|exact X0 (by omega)|fail) only[W0,hbs]
   have hE8:D0 H7 n7 (Go.Clo.hs H7 n7 (some (.cells [.int .i64 (v:Int)] 0))) (n7+1):=(D0.refl _ _).new _ (Nat.le_refl _) (by omega)
   have g8:J0 (Go.Clo.hs H7 n7 (some (.cells [.int .i64 (v:Int)] 0))) n7=some (.cells [.int .i64 (v:Int)] 0):=Z11 _ _ _
   generalize Go.Clo.hs H7 n7 (some (.cells [.int .i64 (v:Int)] 0))=H8 at *
   have e58:=(e6.trans e7).trans hE8
   refine G80.app (H0:=H5) (hA.ext (e7.trans hE8)) g8 (by omega) e58 (by omega) ?_
   intro v9 H9 hA9 e9
   have hX9:=hX5.ext e9
   simp (disch:=first|omega|assumption|exact G0 (by assumption)|exact U10 (by assumption)|exact X0 (by omega)|fail) only[W0,hX9.g4,gv']
   exact hihq (q-1) _ _ _ (by omega) ⟨v+1,v9,by omega,by rw[next];simp,by rw[next];exact hA9,e9⟩
  .have hc':(decide (l.length<L)&&W51 es aL N (L-l.length-1) (cl ||| 2^v) (Z2 r (2^v) &&& xv))=false:=by
    rw[Bool.eq_false_iff]
    intro h
    rw[Bool.and_eq_true,decide_eq_true_iff] at h
    exact hc h
   rw[hc']
   rw[if_neg hc] at next
   simp (disch:=first|omega|assumption|exact G0 (by assumption)|exact U10 (by assumption)|exact X0 (by omega)|fail) only[W0]
   exact hihq (q-1) _ _ _ (by omega) ⟨v+1,.slice SA l.length l.length,by omega,by rw[next];simp,by rw[next];exact hA.ext e7,e6.trans e7⟩
end
section
variable {i:Nat}
theorem W91{α:Type}{l:List α}{x:α}(h:l[i]? = some x):l.drop i=x :: l.drop (i+1):=by
 obtain⟨hi,rfl⟩:=aJ.1 h;exact List.drop_eq_getElem_cons hi
theorem E94{l:List Nat}{x:Nat}(h:l[i]? = some x):(U4 (l.map fun(x:Nat)=>(x:Int)))[i]? = some (.int .i64 (x:Int)):=Z9 (by rw[cP,h];rfl)
theorem J6(l:List Nat):(U4 (l.map fun(x:Nat)=>(x:Int))).length=l.length:=by rw[X9,gM]
theorem B96{a b:List Nat}{A B:Option Addr}{ca cb:Nat}{H:Y0}{nx:Nat}(hA:Sl H nx A (U4 (a.map fun(x:Nat)=>(x:Int))))(hB:Sl H nx B (U4 (b.map fun(x:Nat)=>(x:Int))))(ha:a.length<=1000)(hb:b.length<=1000):
  Q2 Tryz.prog 32 [.slice A a.length ca,.slice B b.length cb] H nx fun r H' nx'=>r = .int .i64 (X83 a b)/\D0 H nx H' nx':=by
 refine spec32 ?_;unfold F32;simp(disch:=first|omega|assumption)only[W0];refine B1 (m:=a.length) (fun m L H' nx'=>∃ i:Nat,m+i=a.length/\L=[.int .i64 (i:Int)]/\X83 a b=X83 (a.drop i) (b.drop i)/\i<=b.length/\H=H'/\nx=nx') ?_ ⟨0,by omega,rfl,rfl,by omega,rfl,rfl⟩;rintro m ih L _ _ ⟨i,hm,rfl,E,a4,rfl,rfl⟩ a1
 by_cases hi:i<a.length
 .have Q:(i:Int)<(a.length:Int):=by omega
  obtain⟨x,hx⟩:∃ x,a[i]? = some x:=⟨_,aE hi⟩
  obtain⟨P,o,row,rfl,a5,U,a0⟩:=hA.open (i:=i) (by rw[J6];omega);have q0:=a0 _ _ (E94 hx);rw[W91 hx] at E
  by_cases hj:i<b.length
  .have J:¬ (i:Int) ≥ (b.length:Int):=by omega
   obtain⟨y,hy⟩:∃ x,b[i]? = some x:=⟨_,aE hj⟩
   obtain⟨P2,o2,a2,rfl,a3,Z,V⟩:=hB.open (i:=i) (by rw[J6];omega);have q1:=V _ _ (E94 hy);rw[W91 hy] at E;simp(disch:=first|omega|assumption)only[W0,Q,J,X3 U,X3 Z,q0,q1];refine R0 (Y81 (x:Int) (y:Int) H nx) ?_;rintro _ _ _ ⟨rfl,rfl,rfl⟩;rw[show X83 (x :: a.drop (i+1)) (y :: b.drop (i+1))=if x<y then -1 else if y<x then 1 else X83 (a.drop (i+1)) (b.drop (i+1)) from rfl] at E
   by_cases h1:x<y
   .have O:(x:Int)<(y:Int):=by omega
    rw[if_pos O] ;rw[if_pos h1] at E;have d:decide ((-1:Int)≠0)=true:=by decide
    simp(disch:=first|omega|assumption)only[W0,d];exact⟨by rw[E],D0.refl _ _⟩
   .by_cases h2:y<x
    .have O:¬ (x:Int)<(y:Int):=by omega
     have W:(y:Int)<(x:Int):=by omega
     rw[if_neg O,if_pos W];rw[if_neg h1,if_pos h2] at E;have d:decide ((1:Int)≠0)=true:=by decide
     simp(disch:=first|omega|assumption)only[W0,d];exact⟨by rw[E],D0.refl _ _⟩
    .have O:¬ (x:Int)<(y:Int):=by omega
     have W:¬ (y:Int)<(x:Int):=by omega
     rw[if_neg O,if_neg W];rw[if_neg h1,if_neg h2] at E;have d:decide ((0:Int)≠0)=false:=by decide
     simp(disch:=first|omega|assumption)only[W0,d];exact a1 (m-1) _ _ _ (by omega) ⟨i+1,by omega,by simp,E,by omega,rfl,rfl⟩
  .have J:(i:Int) ≥ (b.length:Int):=by omega
   rw[cM (show b.length<=i by omega)] at E;simp(disch:=first|omega|assumption)only[W0,Q,J,X3 U,q0];exact⟨by rw[E];rfl,D0.refl _ _⟩
 .have Q:¬ (i:Int)<(a.length:Int):=by omega
  obtain rfl:i=a.length:=by omega
  rw[cM (aD _)] at E
  by_cases hj:a.length<b.length
  .have J:(a.length:Int)<(b.length:Int):=by omega
   simp(disch:=first|omega|assumption)only[W0,Q,J];obtain⟨y,hy⟩:∃ x,b[a.length]? = some x:=⟨_,aE hj⟩
   rw[W91 hy] at E;exact⟨by rw[E];rfl,D0.refl _ _⟩
  .have J:¬ (a.length:Int)<(b.length:Int):=by omega
   rw[cM (show b.length<=a.length by omega)] at E;simp(disch:=first|omega|assumption)only[W0,Q,J];exact⟨by rw[E];rfl,D0.refl _ _⟩
theorem R60(es:List Nat)(N:Nat):NbL (B2 es N) N:=⟨N9 es N,N30⟩
theorem C98{aL:List Nat}{N start:Nat}:∀(k last:Nat) (p:List Nat) (blk:Nat),(exF aL N start k last p blk).length<=p.length+k
 | 0,last,p,blk=>aD _
 | k+1,last,p,blk=>by
  unfold exF
  split
  .simp
  .have:=C98 (aL:=aL) (N:=N) (start:=start) k ‹_› (p++[‹_›]) (W87 aL blk last)
   rw[bH] at this;simp only[List.length_singleton] at this;omega
theorem K98{aL:List Nat}{N L s:Nat}:∀ j,(scW aL N L s j).length<=L+2
 | 0=>by simp[scW]
 | j+1=>by
  unfold scW
  split
  .have:=C98 (aL:=aL) (N:=N) (start:=s) (L-2) j [s,j] 0
   simp only[cV,List.length_nil] at this;omega
  .exact K98 j
theorem Z90{aL:List Nat}{N L:Nat}:∀ s,(scV aL N L s).length<=L+2
 | 0=>by simp[scV]
 | s+1=>by
  unfold scV
  split
  .exact K98 N
  .exact Z90 s
theorem K95{es aL:List Nat}{N most:Nat}(h:Z7 es<2^N):(D83 es aL N most).length<=N:=by
 unfold D83
 split
 .simp
 .exact(V90 h N (aD _)).2.2
theorem G79{N:Nat}(hN:N<=6)(A:Option Addr)(es:List Nat)(cap:Nat)(a1:∀ e ∈ es,e<2^N)(an:es.length<=8)(H:Y0)(nx:Nat)(hS:Sl H nx A (K12 es)):
  Q2 Tryz.prog 12 [gv (N:Int) A es.length cap] H nx fun r H' nx'=>(∃ v,r = .tuple ⟨[v,.bool (decide (Z74 es (B2 es N) N≠[]))]⟩/\LsR (Z74 es (B2 es N) N) v H' nx')/\D0 H nx H' nx':=by
 have ay:2^N<=64:=aK (n:=2) (by omega) hN;have ah:0<2^N:=aQ N;have a6:U14 es:=fun e he=>by have:=a1 e he;omega
 have al:N3 N es=0:=V11 (by omega) (by omega) fun i e he=>a1 e (aH he)
 refine spec12 ?_;unfold F12;have a5:D0 H nx (hs H nx (some (.cells [.int .i64 N,.slice A es.length cap] 0))) (nx+1):=(D0.refl H nx).new _ (aD _) (by omega);have k1:J0 (hs H nx (some (.cells [.int .i64 N,.slice A es.length cap] 0))) nx=some (.cells [.int .i64 N,.slice A es.length cap] 0):=Z11 _ _ _;simp(disch:=first|omega|assumption)only[W0,Z0,Q0.val,C13];generalize hs H nx (some (.cells [.int .i64 N,.slice A es.length cap] 0))=K at *
 refine R0 (N11 N A es cap _ _ (hS.ext a5) a6) ?_;rintro _ H2 nx2 ⟨rfl,a2⟩;have d1:decide (N3 N es≠0)=false:=by simp[al]
 have g2:=(a2.get nx (by omega)).trans k1;have b4:=a2.le;simp(disch:=first|omega|assumption)only[W0,d1,g2,C13];refine R0 (Q65 (by omega) A es cap _ _ (hS.ext (a5.trans a2)) a1 (by omega)) ?_;rintro _ H3 J ⟨rfl,a4⟩;have g3:=(a4.get nx (by omega)).trans g2;have b3:=a4.le;have e1:(K12 (B2 es N)).length=32:=by rw[E1];exact N9 es N
 have e2:(K12 (aF 32 0)).length=32:=by rw[E1];simp
 have e3:=G24 (c:=K12 (aF 32 0)) (vs:=K12 (B2 es N)) (by rw[e1,e2]);have e4:=W5 (B2 es N);rw[Q27];have aa:D0 H3 J (hs (hs H3 J (some (.cells (K12 (aF 32 0)) 0))) J (some (.cells (K12 (B2 es N)) 0))) (J+1):=((D0.refl _ _).new _ (aD _) (m:=J+1) (by omega)).hs (aD _);have a9:J0 (hs (hs H3 J (some (.cells (K12 (aF 32 0)) 0))) J (some (.cells (K12 (B2 es N)) 0))) J=some (.cells (K12 (B2 es N)) 0):=Z11 _ _ _;have ad:J0 (hs (hs H3 J (some (.cells (K12 (aF 32 0)) 0))) J (some (.cells (K12 (B2 es N)) 0))) nx=some (.cells [.int .i64 N,.slice A es.length cap] 0):=(aa.get nx (by omega)).trans g3;simp(disch:=first|omega|assumption)only[W0,e1,e2,e3,e4,g3,M18 e1];generalize hs (hs H3 J (some (.cells (K12 (aF 32 0)) 0))) J (some (.cells (K12 (B2 es N)) 0))=H4 at *
 have a3:=((a5.trans a2).trans a4).trans aa;have hL:=R60 es N;generalize B2 es N=aL at *
 refine R0 (C85 hN hL _ _) ?_;rintro _ H5 au ⟨ap,a0⟩;have b8:=Z90 (aL:=aL) (N:=N) (L:=cyV aL N N) N;have ax:=(U93 (aL:=aL) (N:=N) (fun u w within=>D81 hN hL) N).1;have az:(scF aL N).length<=11:=by
  unfold scF
  split
  .simp
  .omega
 have g5:=(a0.get nx (by omega)).trans ad;have av:=(a0.get J (by omega)).trans a9;have b5:=a0.le;have ak:Z7 es<2^N:=K88 a1 ah;have O:Z74 es aL N=X90 (scF aL N) (D83 es aL N (if scF aL N=[] then N else(scF aL N).length)):=rfl;generalize Z74 es aL N=ob at *
 generalize scF aL N=cy at *
 obtain⟨C,rfl,a8,ao⟩:=ap;obtain⟨most,E⟩:∃ most,most=if cy=[] then N else cy.length:=⟨_,rfl⟩
 rw[<- E] at O;have a7:most<=50:=by rw[E];split<;>omega
 have cz:decide (cy.length=0)=decide (cy=[]):=by
  congr 1;apply propext;exact dT
 simp(disch:=first|omega|assumption)only[W0];refine N5 (fun L' H' nx'=>L'=[.int .i64 (most:Int)]/\H5=H'/\au=nx') ?_ ?_
 .intro jj U
  by_cases h:cy=[]
  .rw[if_pos h] at E
   simp(disch:=first|omega|assumption)only[W0,cz,decide_eq_true h,g5];exact U _ _ _ ⟨by rw[E],rfl,rfl⟩
  .rw[if_neg h] at E
   simp(disch:=first|omega|assumption)only[W0,cz,decide_eq_false h];exact U _ _ _ ⟨by rw[E],rfl,rfl⟩
 rintro L1 _ _ ⟨rfl,rfl,rfl⟩;simp(disch:=first|omega|assumption)only[W0,g5,av,C13,M18 e1];have aj:=hS.ext (a3.trans a0);refine R0 (D84 hN a1 an hL a7 A cap _ _ aj) ?_;rintro _ H6 ai ⟨aw,ae⟩;have ba:=K95 (es:=es) (aL:=aL) (N:=N) (most:=most) ak;generalize D83 es aL N most=cq at *
 have Z:=(a3.trans a0).trans ae;obtain⟨Q,rfl,aq,ab⟩:=aw;have W:=ao.ext ae;have ac:decide (cq.length=0)=decide (cq=[]):=by
  congr 1;apply propext;exact dT
 by_cases h1:cq=[]
 .have cg:decide ((cy.length:Int) > 0)=decide (cy≠[]):=by
   congr 1;apply propext
   constructor
   .rintro h rfl;simp at h
   .intro h;have:=List.length_pos_iff.2 h;omega
  rw[X90,if_pos h1] at O;subst O;simp(disch:=first|omega|assumption)only[W0,ac,decide_eq_true h1,cg];exact⟨⟨_,rfl,C,rfl,a8,W⟩,Z⟩
 rw[X90,if_neg h1] at O;simp(disch:=first|omega|assumption)only[W0,ac,decide_eq_false h1];have cl:decide ((cq.length:Int)<(cy.length:Int))=decide (cq.length<cy.length):=by congr 1;apply propext;omega
 refine N5 (fun L' H' nx'=>L'=[.bool (decide (cy=[]\/cq.length<cy.length\/X83 cq cy<0))]/\D0 H6 ai H' nx') ?_ ?_
 .intro jj U
  by_cases h2:cy=[]
  .simp(disch:=first|omega|assumption)only[W0,cz,decide_eq_true h2]
   exact U _ _ _ ⟨by simp[h2],D0.refl _ _⟩
  by_cases h3:cq.length<cy.length
  .simp(disch:=first|omega|assumption)only[W0,cz,decide_eq_false h2,cl,decide_eq_true h3]
   exact U _ _ _ ⟨by simp[h3],D0.refl _ _⟩
  simp(disch:=first|omega|assumption)only[W0,cz,decide_eq_false h2,cl,decide_eq_false h3];refine R0 (B96 ab W (by omega) (by omega)) ?_;rintro _ H7 ag ⟨rfl,V⟩;simp(disch:=first|omega|assumption)only[W0];exact U _ _ _ ⟨by simp[h2,h3],V⟩
 rintro L1 H7 ag ⟨rfl,V⟩
 by_cases h2:cy=[]\/cq.length<cy.length\/X83 cq cy<0
 .rw[if_pos h2] at O
  subst O;simp(disch:=first|omega|assumption)only[W0,decide_eq_true h2];exact⟨⟨_,by rw[decide_eq_true (show ob≠[] from h1)],Q,rfl,aq,ab.ext V⟩,Z.trans V⟩
 .rw[if_neg h2] at O
  subst O;simp(disch:=first|omega|assumption)only[W0,decide_eq_false h2];exact⟨⟨_,by rw[decide_eq_true (show ob≠[] from fun h=>h2 (.inl h))],C,rfl,a8,W.ext V⟩,Z.trans V⟩
end
end Go.Proofs.YtoiioigihocgbaaGreatDoor
namespace Go.Clo
section
variable {k last:Nat}
def shG(aL:List Nat)(inn far lim:Nat):Nat->Nat->Nat->Nat->Option (Nat × Nat)
 | 0,_,_,_=>none
 | k+1,seen,b,st=>if b=0\/(lim≠0/\lim<st) then none else if Q4 aL b 32 &&& far≠0 then some (st,Q4 aL b 32 &&& far) else shG aL inn far lim k (seen ||| b) (Z2 (Q4 aL b 32 &&& inn) (seen ||| b)) (st+1)
def U5(aL:List Nat)(inn last:Nat):Nat->Nat
 | 0=>last
 | k+1=>Q4 aL (U5 aL inn last k) 32 &&& inn
def Q7(aL:List Nat)(inn last len first:Nat):Nat->Nat
 | 0=>first
 | k+1=>tz (U5 aL inn last (len-1-k) &&& aL.getD (Q7 aL inn last len first k) 0)
def lev(aL:List Nat)(inn b:Nat):Nat->Nat
 | 0=>b
 | k+1=>Q4 aL (lev aL inn b k) 32 &&& inn
section
variable {aL:List Nat} {inn far lim:Nat}
theorem K15{b0:Nat}:∀(k E b st:Nat) {r:Nat × Nat},(∀ w,b.testBit w=true->(lev aL inn b0 (st-2)).testBit w=true)->2<=st->shG aL inn far lim k E b st=some r ->
  2<=r.1/\(lim≠0->r.1<=lim)/\r.2≠0/\(∀ w,r.2.testBit w=true->far.testBit w=true)/\∃ u z,(lev aL inn b0 (r.1-2)).testBit u=true/\r.2.testBit z=true/\(aL.getD u 0).testBit z=true
 | 0,E,b,st,r,_,_,h=>by cases h
 | k+1,E,b,st,r,hb,h2,h=>by
  unfold shG at h
  split at h
  .cases h
  .rename_i h3
   split at h
   .rename_i h4
    cases h
    obtain⟨z,hz⟩:=B14 h4;have J:=hz;rw[bI,aG] at J;obtain⟨u,u1,u2,u3⟩:=Y7.1 J.1;refine⟨h2,fun hl => ?_,h4,fun w hw => ?_,u,z,hb u u2,hz,u3⟩
    .show st<=lim
     omega
    .rw[bI,aG] at hw
     exact hw.2
   .refine K15 k _ _ (st+1) (fun w hw => ?_) (by omega) h
    rw[N1,aG,bI,aG] at hw;rw[show st+1-2=(st-2)+1 by omega,lev,bI,aG];obtain⟨u,u1,u2,u3⟩:=Y7.1 hw.1.1;exact⟨Y7.2 ⟨u,u1,hb u u2,u3⟩,hw.1.2⟩
theorem R42 {N:Nat} (hi:inn<2^N) (hl:last<2^N):∀ k,U5 aL inn last k<2^N
 | 0=>hl
 | k+1=>Nat.lt_of_le_of_lt Nat.and_le_right hi
theorem R50{b:Nat}(hb:∀ w,b.testBit w=true->inn.testBit w=true):∀ k w,(lev aL inn b k).testBit w=true->inn.testBit w=true
 | 0,w,h=>hb w h
 | k+1,w,h=>by
  rw[lev,bI,aG] at h;exact h.2
variable (hsym:∀ u w,(aL.getD u 0).testBit w=true->(aL.getD w 0).testBit u=true) (h32:∀ u w,(aL.getD u 0).testBit w=true->w<32)
include hsym h32
theorem B51{b last:Nat}(hb:∀ w,b.testBit w=true->inn.testBit w=true):∀(j i:Nat),(∃ y,(lev aL inn b j).testBit y=true/\(U5 aL inn last i).testBit y=true)->∃ y,b.testBit y=true/\(U5 aL inn last (i+j)).testBit y=true
 | 0,i,⟨y,h1,h2⟩=>⟨y,h1,h2⟩
 | j+1,i,⟨y,h1,h2⟩=>by
  rw[lev,bI,aG] at h1;obtain⟨u,u1,u2,u3⟩:=Y7.1 h1.1;have:=B51 hb j (i+1) ⟨u,u2,by
   rw[U5,bI,aG];exact⟨Y7.2 ⟨y,h32 _ _ u3,h2,hsym _ _ u3⟩,R50 hb j u u2⟩⟩
  rw[show i+(j+1)=i+1+j by omega];exact this
theorem G55{first E st:Nat}{r:Nat × Nat}(h:shG aL inn far lim k E (aL.getD first 0 &&& inn) 2=some r):aL.getD first 0 &&& U5 aL inn r.2 (r.1-1)≠0:=by
 have hb:∀ w,(aL.getD first 0 &&& inn).testBit w=true->inn.testBit w=true:=fun w hw=>by
  rw[bI,aG] at hw;exact hw.2
 obtain⟨h1,h2,h3,h4,u,z,h5,h6,h7⟩:=K15 (b0:=aL.getD first 0 &&& inn) k E _ 2 (fun w hw=>hw) (aD _) h;obtain⟨y,y1,y2⟩:=B51 hsym h32 hb (last:=r.2) (r.1-2) 1 ⟨u,h5,by
  rw[U5,bI,aG];exact⟨Y7.2 ⟨z,h32 _ _ h7,h6,hsym _ _ h7⟩,R50 hb _ u h5⟩⟩
 rw[show 1+(r.1-2)=r.1-1 by omega] at y2;rw[bI,aG] at y1;intro e;have:(aL.getD first 0 &&& U5 aL inn r.2 (r.1-1)).testBit y=true:=by rw[bI,y1.1,y2];rfl
 rw[e] at this;simp at this
theorem V61{E:Nat}(h:(U5 aL inn last (k+1)).testBit E=true):U5 aL inn last k &&& aL.getD E 0≠0:=by
 rw[U5,bI,aG] at h;obtain⟨u,u1,u2,u3⟩:=Y7.1 h.1;intro e;have:(U5 aL inn last k &&& aL.getD E 0).testBit u=true:=by rw[bI,u2,hsym _ _ u3];rfl
 rw[e] at this;simp at this
end
def shN(i:Nat)(r:Option (Nat × Nat))(s:Nat × (Nat->Nat)):Nat × (Nat->Nat):=match r with
 | none=>s
 | some (st,last)=>(st,fun x=>if x=i then last else if s.1=0\/st<s.1 then 0 else s.2 x)
def N14(aL:List Nat)(f i:Nat):Nat:=Z2 (Z2 (2^f-1) (aL.getD i 0)) (2^i)
def J4(aL:List Nat)(N inn f:Nat):Nat->Nat × (Nat->Nat)
 | 0=>(0,fun _=>0)
 | i+1=>shN i (shG aL inn (N14 aL f i) (J4 aL N inn f i).1 N 0 (aL.getD i 0 &&& inn) 2) (J4 aL N inn f i)
theorem E47{aL:List Nat}{N inn f:Nat}:∀(i x:Nat),(J4 aL N inn f i).2 x≠0->x<i/\∃ lim,shG aL inn (N14 aL f x) lim N 0 (aL.getD x 0 &&& inn) 2=some ((J4 aL N inn f i).1,(J4 aL N inn f i).2 x)
 | 0,x,h=>absurd rfl h
 | i+1,x,h=>by
  have ih:=E47 (aL:=aL) (N:=N) (inn:=inn) (f:=f) i x
  cases hr:shG aL inn (N14 aL f i) (J4 aL N inn f i).1 N 0 (aL.getD i 0 &&& inn) 2 with
  | none=>
   have e:J4 aL N inn f (i+1)=J4 aL N inn f i:=by rw[J4,hr];rfl
   rw[e] at h ⊢;obtain⟨h1,h2⟩:=ih h;exact⟨by omega,h2⟩
  | some r=>
   obtain⟨st,last⟩:=r;have e:J4 aL N inn f (i+1)=(st,fun x=>if x=i then last else if (J4 aL N inn f i).1=0\/st<(J4 aL N inn f i).1 then 0 else(J4 aL N inn f i).2 x):=by rw[J4,hr];rfl
   rw[e] at h ⊢;dsimp only at h ⊢
   by_cases hx:x=i
   .subst hx
    rw[if_pos rfl];exact⟨by omega,_,hr⟩
   .rw[if_neg hx] at h ⊢
    split at h
    .exact absurd rfl h
    .rename_i h3
     obtain⟨h1,lim,h2⟩:=ih h;obtain⟨_,h4,_⟩:=K15 (b0:=aL.getD i 0 &&& inn) N 0 _ 2 (fun w hw=>hw) (aD _) hr;have h4:=h4 (by omega);have h5:st=(J4 aL N inn f i).1:=by
      have:st<=(J4 aL N inn f i).1:=h4;omega
     rw[if_neg h3];refine⟨by omega,lim,?_⟩;rw[h5];exact h2
theorem J58 {aL:List Nat} {inn last N first len:Nat} (hN:N<=6) (hlt:∀ (u x:Nat),aL[u]? = some x->x<2^N) (hsym:∀ u w,(aL.getD u 0).testBit w=true->(aL.getD w 0).testBit u=true) (hi:inn<2^N) (hla:last<2^N) (hf:first<N)
  (hst:U5 aL inn last (len-1) &&& aL.getD first 0≠0):∀ k,k<len->Q7 aL inn last len first k<N/\U5 aL inn last (len-1-k) &&& aL.getD (Q7 aL inn last len first k) 0≠0
 | 0,_=>⟨hf,hst⟩
 | k+1,hk=>by
  have hp64:2^N<=64:=Nat.pow_le_pow_right (n:=2) (by omega) hN
  obtain⟨h1,h2⟩:=J58 hN hlt hsym hi hla hf hst k (by omega)
  have hx:U5 aL inn last (len-1-k) &&& aL.getD (Q7 aL inn last len first k) 0<2^N:=Nat.lt_of_le_of_lt Nat.and_le_left (R42 hi hla _)
  have hb:=V33 (x:=U5 aL inn last (len-1-k) &&& aL.getD (Q7 aL inn last len first k) 0) (by omega) (by omega)
  have hl:=B54 (x:=U5 aL inn last (len-1-k) &&& aL.getD (Q7 aL inn last len first k) 0) (by omega) (by omega) hx
  rw[Nat.testBit_and,Bool.and_eq_true] at hb
  have e:len-1-k=(len-1-(k+1))+1:=by omega
  rw[e] at hb
  have h32:∀ u w,(aL.getD u 0).testBit w=true->w<32:=fun u w h=>by
   cases hg:aL[u]? with
   | none=>rw[List.getD_eq_getElem?_getD,hg] at h;simp at h
   | some x=>
    rw[List.getD_eq_getElem?_getD,hg] at h
    have:=R7 (hlt u x hg) h
    omega
  refine⟨hl,?_⟩
  exact V61 hsym h32 (by rw[<- e];rw[<- e] at hb;exact hb.1)
def K10(N f:Nat):Nat:=Z2 (2^N-1) (2^f-1)
def K24(aL:List Nat)(N f:Nat):Option (List Nat):=
 match (aY f).find? fun x=>decide ((J4 aL N (K10 N f) f f).2 x≠0) with
 | none=>none
 | some x=>some ((aY ((J4 aL N (K10 N f) f f).1+1)).map (Q7 aL (K10 N f) ((J4 aL N (K10 N f) f f).2 x) (J4 aL N (K10 N f) f f).1 x))
end
end Go.Clo
namespace Go.Proofs.YtoiioigihocgbaaGreatDoor
open Go.Clo
section
variable (a0 a1 a2:Value) (H:Y0) (nx:Nat) (k:EP)
def F71:Prop:=
 M12 a0 H nx fun b c d=>
 G3 (fun c d e f=>
 D10 .lss d.b (.int .i64 32) fun g=>
 K2 g (
 V4 (fun c=>
 D10 .shr a1 d.b fun g=>
 D10 .and g u1 fun g=>
 D10 .eql g u1 fun g=>
 K2 g (
 M3 b d.b (some 32) 1 fun b=>
 J1 b none e fun b=>
 D10 .or d.a b fun b=>
 c [b] e f) (
 c [d.a] e f)) (fun b e f=>
 D10 .add d.b i1 fun d=>
 c [b.a,d] e f)) (
 Rt d.a e f k)) [u0,i0] c d
def F36:Prop:=
 M12 a0 H nx fun b c d=>
 M64 none <| J3 (.map [] 0) .map c d fun c d e=>
 G3 (fun d e f g=>
 D10 .lss e.b a2 fun h=>
 K2 h (
 V4 (fun d=>
 M2 (g+10) fun g=>
 Y2 Tryz.prog 35 [a2] f g fun g h i=>
 M3 b e.b (some 32) 1 fun j=>
 J1 j none h fun l=>
 D10 .andNot g l fun g=>
 D10 .shl u1 e.b fun m=>
 D10 .andNot g m fun g=>
 wK (tB ((cE j none h l)/\(tB (cE j none f l)))) (
 M3 b e.b (some 32) 1 fun f=>
 J1 f none h fun f=>
 D10 .and f a1 fun f=>
 G3 (fun f h i j=>
 V4 (fun b=>
 D10 .neq h.c u0 fun c=>
 K3 true c (
 D10 .eql h.a i0 fun c=>
 K3 false c (
 D10 .leq h.d h.a fun c=>
 b [c] i j) (
 b [bT] i j)) (
 b [bF] i j)) (fun i j l=>
 K2 i.a (
 D10 .or h.b h.c fun i=>
 J1 b (some 32) j fun b=>
 Y2 Tryz.prog 71 [b,h.c] j l fun b j l=>
 D10 .and b g fun g=>
 D10 .neq g u0 fun m=>
 K2 m (
 V4 (fun b=>
 V4 (fun b=>
 D10 .eql h.a i0 fun c=>
 K3 false c (
 D10 .lss h.d h.a fun c=>
 b [c] j l) (
 b [bT] j l)) (fun d e f=>
 K2 d.a (
 M41 c e fun c=>
 b [h.d] c f) (
 b [h.a] e f))) (fun b f h=>
 W56 (.int .i64) c e.b g f h fun _ c e=>
 d [b.a] c e)) (
 D10 .and b a1 fun b=>
 D10 .andNot b i fun b=>
 D10 .add h.d i1 fun c=>
 f [h.a,i,b,c] j l)) (
 d [h.a] j l))) [e.a,u0,f,(.int .i64 2)] h i)) (fun b c f=>
 D10 .add e.b i1 fun e=>
 d [b.a,e] c f)) (
 Rt (.tuple ⟨[e.a,c]⟩) f g k)) [i0,i0] d e
def F26:Prop:=
 D9 (.eqn false (.slice 3)) [a0,(.slice none 0 0)] fun b=>
 K2 b (
 Rt (.slice none 0 0) H nx k) (
 D24 0 1 [.int .i64 0] [] H nx fun b c d=>
 B5 b a0 1 8 c d fun b c d=>
 Rt b c d k)
def F39:Prop:=
 M12 a0 H nx fun b c d=>
 J1 b (some 3) c fun b=>
 D5 a1 b 3 c fun b=>
 D5 a2 bT 1 b fun b=>
 Rt bF b d k
def F38:Prop:=
 M12 a0 H nx fun b c d=>
 J1 b (some 2) c fun e=>
 Y2 Tryz.prog 74 [e,a1] c d fun c d e=>
 wUn .not c fun c=>
 K2 c (
 Rt (.tuple ⟨[]⟩) d e k) (
 G29 a1 a1 [.int .u32 0] d e fun c d e=>
 G3 (fun d e f g=>
 D10 .lss e.a a1 fun h=>
 K2 h (
 J1 b (some 2) f fun b=>
 Y2 Tryz.prog 70 [b,e.a] f g fun b f g=>
 M3 c e.a none 1 fun c=>
 D5 c b 1 f fun b=>
 D10 .add e.a i1 fun c=>
 d [c] b g) (
 G3 (fun b d e f=>
 D10 .lss d.a a1 fun g=>
 K2 g (
 D10 .add d.a i1 fun g=>
 G3 (fun e f g h=>
 D10 .lss f.a a1 fun i=>
 K2 i (
 V4 (fun b=>
 U6 c d.a g fun _ e=>
 D10 .shr e f.a fun e=>
 D10 .and e u1 fun e=>
 D10 .eql e u1 fun e=>
 K2 e (
 b [] g h) (
 M2 (h+10) fun e=>
 U6 c d.a g fun h i=>
 U6 c f.a g fun c j=>
 D10 .and i j fun l=>
 wK ((tB (cE c none g j))/\(tB (tB (cE h none g i)))) (
 D10 .add f.a i1 fun c=>
 G3 (fun c e g h=>
 D10 .lss e.a a1 fun i=>
 K2 i (
 V4 (fun b=>
 D10 .shr l e.a fun c=>
 D10 .and c u1 fun c=>
 D10 .eql c u1 fun c=>
 K3 true c (
 U11 [.int .i64 0,.int .i64 0,.int .i64 0] [(0,1),(1,1),(2,1)] [(0,d.a),(1,f.a),(2,e.a)] fun c=>
 M33 Tryz.prog a2 [c] g h fun c d e=>
 wUn .not c fun c=>
 b [c] d e) (
 b [bF] g h)) (fun b d f=>
 K2 b.a (
 Rt (.tuple ⟨[]⟩) d f k) (
 D10 .add e.a i1 fun b=>
 c [b] d f))) (
 b [] g h)) [c] g e))) (fun _ b c=>
 D10 .add f.a i1 fun d=>
 e [d] b c)) (
 D10 .add d.a i1 fun c=>
 b [c] g h)) [g] e f) (
 Rt (.tuple ⟨[]⟩) e f k)) [i0] f g)) [i0] d e)
def F15:Prop:=
 M12 a0 H nx fun b c d=>
 wAl [.int .i64 0,.int .i64 0,.int .i64 0] c d fun c d e=>
 wAl [.int .i64 0,.int .i64 0,.int .i64 0] d e fun d e f=>
 wAl [.bool false] e f fun e f g=>
 D5 e bF 1 f fun f=>
 J1 b (some 2) f fun b=>
 Y2 Tryz.prog 38 [b,a1,(.func (.func 39) ⟨[]⟩ ⟨[d,e]⟩)] f g fun _ b f=>
 M2 (f+4) fun f=>
 J1 d (some 3) b fun g=>
 J1 e none b fun h=>
 D5 c g 3 b fun i=>
 wK (((cE e none i h)/\(tB (cE e none b h)))/\(tB (tA (tB (cE d (some 3) b g))))) (
 J1 c (some 3) i fun b=>
 Rt (.tuple ⟨[b,h]⟩) i f k)
def F13:Prop:=
 R4 a0 0 H fun b=>
 R4 a1 0 H fun c=>
 D10 .neq b c fun b=>
 K2 b (
 Rt bF H nx k) (
 G3 (fun b c d e=>
 R4 a0 0 d fun f=>
 D10 .lss c.a f fun f=>
 K2 f (
 M2 (e+9) fun e=>
 U6 a0 c.a d fun f g=>
 U6 a1 c.a d fun h i=>
 D10 .neq g i fun j=>
 wK ((tB (cE h none d i))/\(tB (tB (cE f none d g)))) (
 K2 j (
 Rt bF d e k) (
 D10 .add c.a i1 fun c=>
 b [c] d e))) (
 Rt bT d e k)) [i0] H nx)
def F28:Prop:=
 M12 a0 H nx fun b c d=>
 G3 (fun c d e f=>
 wFl b 0 e fun _ g=>
 D10 .lss d.a g fun g=>
 K2 g (
 wFl b 1 e fun _ b=>
 W8 .u64 d.a fun g=>
 D10 .shl u1 g fun g=>
 Y2 Tryz.prog 62 [b,g] e f fun b e f=>
 wUn .not b fun b=>
 K2 b (
 Rt bF e f k) (
 D10 .add d.a i1 fun b=>
 c [b] e f)) (
 Rt bT e f k)) [i0] c d
def F11:Prop:=
 M12 a0 H nx fun b c d=>
 J1 b (some 2) c fun e=>
 Y2 Tryz.prog 27 [e] c d fun c d e=>
 D10 .neq c i0 fun f=>
 K2 f (
 Rt c d e k) (
 V4 (fun c=>
 D10 .lss a1 i0 fun f=>
 K3 false f (
 wFl b 0 d fun _ b=>
 D10 .gtr a1 b fun b=>
 c [b] d e) (
 c [bT] d e)) (fun c d e=>
 K2 c.a (
 Rt (.int .i64 3) d e k) (
 J1 b (some 2) d fun b=>
 Y2 Tryz.prog 28 [b] d e fun b c d=>
 wUn .not b fun b=>
 K2 b (
 Rt (.int .i64 9) c d k) (
 Rt i0 c d k))))
def F25:Prop:=
 M12 a0 H nx fun b c d=>
 J1 b (some 2) c fun e=>
 Y2 Tryz.prog 27 [e] c d fun c d e=>
 D10 .neq c i0 fun f=>
 K2 f (
 Rt c d e k) (
 V4 (fun c=>
 D10 .lss a1 i0 fun f=>
 K3 false f (
 wFl b 0 d fun _ b=>
 D10 .gtr a1 b fun b=>
 c [b] d e) (
 c [bT] d e)) (fun c d e=>
 K2 c.a (
 Rt (.int .i64 3) d e k) (
 wFl b 1 d fun _ c=>
 R4 c 0 d fun f=>
 G3 (fun d e g h=>
 D10 .lss e.b f fun f=>
 K2 f (
 U6 c e.b g fun _ b=>
 D10 .or e.a b fun b=>
 D10 .add e.b i1 fun c=>
 d [b,c] g h) (
 wFl b 0 g fun _ c=>
 D10 .shl u1 c fun c=>
 D10 .sub c u1 fun c=>
 D10 .neq e.a c fun d=>
 K2 d (
 Rt (.int .i64 9) g h k) (
 M2 (h+9) fun d=>
 J1 b (some 2) g fun e=>
 D10 .shl u1 a1 fun f=>
 D10 .sub f u1 fun f=>
 D10 .andNot c f fun c=>
 Y2 Tryz.prog 43 [e,c] g d fun c d f=>
 wNm h 7 .ptr fun i=>
 E6 d (h+7) (some (.cells [.int .i64 0,.slice none 0 0] 0)) fun d=>D5 i c 2 d fun c=>
 wK (tB (tA (tA (tB (cE b (some 2) g e))))) (
 J1 i (some 2) c fun b=>
 Y2 Tryz.prog 42 [b] c f fun b c d=>
 R4 b 0 c fun e=>
 G3 (fun c d f g=>
 D10 .lss d.a e fun e=>
 K2 e (
 U6 b d.a f fun _ b=>
 Y2 Tryz.prog 44 [b] f g fun b e f=>
 D10 .gtr b (.int .i64 8) fun b=>
 K2 b (
 Rt (.int .i64 12) e f k) (
 D10 .add d.a i1 fun b=>
 c [b] e f)) (
 Rt i0 f g k)) [i0] c d)))) [u0,i0] d e)))
def F10:Prop:=
 M12 a0 H nx fun b c d=>
 wAl [.int .i64 0,.slice none 0 0,.slice none 0 0] c d fun c d e=>
 J1 b (some 2) d fun f=>
 Y2 Tryz.prog 25 [f,a1] d e fun d e f=>
 D10 .neq d i0 fun g=>
 K2 g (
 U11 [.int .i64 0,.slice none 0 0,.slice none 0 0] [(0,1),(1,1),(2,1)] [] fun b=>
 D5 c b 3 e fun b=>
 J1 c (some 3) b fun c=>
 Rt (.tuple ⟨[c,d]⟩) b f k) (
 J1 b (some 2) e fun d=>
 Y2 Tryz.prog 12 [d] e f fun d e f=>
 G9 d 0 fun g=>
 G9 d 1 fun d=>
 K2 d (
 Y2 Tryz.prog 26 [g] e f fun b d e=>
 U11 [.int .i64 0,.slice none 0 0,.slice none 0 0] [(0,1),(1,1),(2,1)] [(0,i1),(2,b)] fun b=>
 D5 c b 3 d fun b=>
 J1 c (some 3) b fun c=>
 Rt (.tuple ⟨[c,i0]⟩) b e k) (
 J1 b (some 2) e fun d=>
 Y2 Tryz.prog 14 [d,a1] e f fun d e f=>
 G9 d 0 fun g=>
 G9 d 1 fun d=>
 K2 d (
 Y2 Tryz.prog 26 [g] e f fun b d e=>
 U11 [.int .i64 0,.slice none 0 0,.slice none 0 0] [(0,1),(1,1),(2,1)] [(0,(.int .i64 2)),(2,b)] fun b=>
 D5 c b 3 d fun b=>
 J1 c (some 3) b fun c=>
 Rt (.tuple ⟨[c,i0]⟩) b e k) (
 J1 b (some 2) e fun d=>
 Y2 Tryz.prog 15 [d,a1] e f fun d e f=>
 G9 d 0 fun g=>
 G9 d 1 fun d=>
 wAl [.int .i64 0,.int .i64 0,.int .i64 0] e f fun e f h=>
 D5 e g 3 f fun f=>
 K2 d (
 D90 e 3 1 none none none fun b=>
 Y2 Tryz.prog 26 [b] f h fun b d e=>
 U11 [.int .i64 0,.slice none 0 0,.slice none 0 0] [(0,1),(1,1),(2,1)] [(0,(.int .i64 3)),(2,b)] fun b=>
 D5 c b 3 d fun b=>
 J1 c (some 3) b fun c=>
 Rt (.tuple ⟨[c,i0]⟩) b e k) (
 J1 b (some 2) f fun b=>
 Y2 Tryz.prog 16 [b,a1] f h fun b d e=>
 G9 b 0 fun f=>
 G9 b 1 fun g=>
 G9 b 2 fun b=>
 wAl zR d e fun d e h=>
 D5 d g 3 e fun d=>
 D10 .neq b i0 fun e=>
 K2 e (
 U11 [.int .i64 0,.slice none 0 0,.slice none 0 0] [(0,1),(1,1),(2,1)] [] fun e=>
 D5 c e 3 d fun d=>
 J1 c (some 3) d fun c=>
 Rt (.tuple ⟨[c,b]⟩) d h k) (
 U11 [.int .i64 0,.slice none 0 0,.slice none 0 0] [(0,1),(1,1),(2,1)] [(0,i0),(1,f)] fun b=>
 D5 c b 3 d fun b=>
 J1 c (some 3) b fun c=>
 Rt (.tuple ⟨[c,i0]⟩) b h k)))))
def F14:Prop:=
 M12 a0 H nx fun b c d=>
 J1 b (some 2) c fun e=>
 Y2 Tryz.prog 33 [e,a1] c d fun c d e=>
 D10 .neq c i0 fun c=>
 K2 c (
 Rt (.tuple ⟨[(.slice none 0 0),bF]⟩) d e k) (
 J1 b (some 2) d fun c=>
 Y2 Tryz.prog 34 [c] d e fun c d e=>
 wAl z32 d e fun d e f=>
 D5 d c 32 e fun c=>
 wFl b 0 c fun _ b=>
 Y2 Tryz.prog 35 [b] c f fun b c e=>
 Y2 Tryz.prog 35 [a1] c e fun c e f=>
 D10 .andNot b c fun b=>
 J1 d (some 32) e fun c=>
 Y2 Tryz.prog 36 [c,b,a1] e f fun c e f=>
 G9 c 0 fun g=>
 G9 c 1 fun c=>
 G3 (fun e f h i=>
 D10 .lss f.a a1 fun j=>
 K2 j (
 wLk (.int .i64) u0 c f.a false h fun j=>
 D10 .neq j u0 fun j=>
 K2 j (
 J1 d (some 32) h fun d=>
 wLk (.int .i64) u0 c f.a false h fun c=>
 Y2 Tryz.prog 37 [d,b,f.a,c,g] h i fun b c d=>
 Rt (.tuple ⟨[b,bT]⟩) c d k) (
 D10 .add f.a i1 fun b=>
 e [b] h i)) (
 Rt (.tuple ⟨[(.slice none 0 0),bF]⟩) h i k)) [i0] e f)
def F3:Prop:=
 M12 a0 H nx fun b c d=>
 Y2 Tryz.prog 8 [] c d fun c d e=>
 wUn .not c fun c=>
 K2 c (
 Rt bF d e k) (
 J1 b (some 2) d fun c=>
 Y2 Tryz.prog 9 [c,a1] d e fun c d e=>
 wUn .not c fun c=>
 K2 c (
 Rt bT d e k) (
 J1 b (some 2) d fun c=>
 Y2 Tryz.prog 10 [c,a1] d e fun c d e=>
 G9 c 0 fun f=>
 G9 c 1 fun c=>
 wAl [.int .i64 0,.slice none 0 0,.slice none 0 0] d e fun d e g=>
 D5 d f 3 e fun e=>
 J1 b (some 2) e fun f=>
 Y2 Tryz.prog 11 [f,a1] e g fun e f g=>
 D10 .neq e i0 fun h=>
 K2 h (
 D10 .eql c e fun b=>
 K3 true b (
 wFl d 0 f fun _ b=>
 D10 .eql b i0 fun b=>
 K3 true b (
 wFl d 1 f fun _ b=>
 R4 b 0 f fun b=>
 D10 .eql b i0 fun b=>
 K3 true b (
 wFl d 2 f fun _ b=>
 R4 b 0 f fun b=>
 D10 .eql b i0 fun b=>
 Rt b f g k) (
 Rt bF f g k)) (
 Rt bF f g k)) (
 Rt bF f g k)) (
 D10 .neq c i0 fun c=>
 K2 c (
 Rt bF f g k) (
 J1 b (some 2) f fun c=>
 Y2 Tryz.prog 12 [c] f g fun c e f=>
 G9 c 0 fun g=>
 G9 c 1 fun c=>
 K2 c (
 wFl d 0 e fun _ b=>
 D10 .eql b i1 fun b=>
 K3 true b (
 wFl d 2 e fun _ b=>
 Y2 Tryz.prog 13 [b,g] e f fun b c e=>
 K3 true b (
 wFl d 1 c fun _ b=>
 R4 b 0 c fun b=>
 D10 .eql b i0 fun b=>
 Rt b c e k) (
 Rt bF c e k)) (
 Rt bF e f k)) (
 J1 b (some 2) e fun c=>
 Y2 Tryz.prog 14 [c,a1] e f fun c e f=>
 G9 c 0 fun g=>
 G9 c 1 fun c=>
 K2 c (
 wFl d 0 e fun _ b=>
 D10 .eql b (.int .i64 2) fun b=>
 K3 true b (
 wFl d 2 e fun _ b=>
 Y2 Tryz.prog 13 [b,g] e f fun b c e=>
 K3 true b (
 wFl d 1 c fun _ b=>
 R4 b 0 c fun b=>
 D10 .eql b i0 fun b=>
 Rt b c e k) (
 Rt bF c e k)) (
 Rt bF e f k)) (
 J1 b (some 2) e fun c=>
 Y2 Tryz.prog 15 [c,a1] e f fun c e f=>
 G9 c 0 fun g=>
 G9 c 1 fun c=>
 wAl [.int .i64 0,.int .i64 0,.int .i64 0] e f fun e f h=>
 D5 e g 3 f fun f=>
 K2 c (
 wFl d 0 f fun _ b=>
 D10 .eql b (.int .i64 3) fun b=>
 K3 true b (
 wFl d 2 f fun _ b=>
 M3 e i0 (some 3) 1 fun c=>
 J1 c none f fun c=>
 M3 e i1 (some 3) 1 fun g=>
 J1 g none f fun g=>
 M3 e (.int .i64 2) (some 3) 1 fun e=>
 J1 e none f fun e=>
 D24 3 1 [.int .i64 0] [(0,c),(1,g),(2,e)] f h fun c e f=>
 Y2 Tryz.prog 13 [b,c] e f fun b c e=>
 K3 true b (
 wFl d 1 c fun _ b=>
 R4 b 0 c fun b=>
 D10 .eql b i0 fun b=>
 Rt b c e k) (
 Rt bF c e k)) (
 Rt bF f h k)) (
 J1 b (some 2) f fun b=>
 Y2 Tryz.prog 16 [b,a1] f h fun b c e=>
 G9 b 0 fun f=>
 G9 b 1 fun g=>
 G9 b 2 fun b=>
 wAl zR c e fun c e h=>
 D5 c g 3 e fun c=>
 D10 .eql b i0 fun b=>
 K3 true b (
 wFl d 0 c fun _ b=>
 D10 .eql b i0 fun b=>
 K3 true b (
 wFl d 1 c fun _ b=>
 Y2 Tryz.prog 13 [b,f] c h fun b c e=>
 K3 true b (
 wFl d 2 c fun _ b=>
 R4 b 0 c fun b=>
 D10 .eql b i0 fun b=>
 Rt b c e k) (
 Rt bF c e k)) (
 Rt bF c h k)) (
 Rt bF c h k))))))))
variable {a0 a1 a2 H nx k}
theorem spec71:F71 a0 a1 H nx k->Q2 Tryz.prog 71 [a0,a1] H nx k:=Q12 [(6,[5])] [[5,7]] []
theorem spec36:F36 a0 a1 a2 H nx k->Q2 Tryz.prog 36 [a0,a1,a2] H nx k:=Q12 [(7,[8]),(14,[46]),(21,[8]),(22,[66])] [[8,19],[8,12,13,14]] [.one (.tst (.tst (.one (.one .nil)) (.one (.one .nil))) (.one (.one (.one .nil)))),.one (.tst (.one .nil) (.one .nil))]
theorem spec26:F26 a0 H nx k->Q2 Tryz.prog 26 [a0] H nx k:=Q12 [] [] []
theorem spec39:F39 a0 a1 a2 H nx k->Q2 Tryz.prog 39 [a0,a1,a2] H nx k:=Q12 [] [] []
theorem spec38:F38 a0 a1 a2 H nx k->Q2 Tryz.prog 38 [a0,a1,a2] H nx k:=Q12 [(18,[]),(26,[77])] [[19],[30],[9],[11]] [.one (.tst (.one .nil) (.one .nil))]
theorem spec15:F15 a0 a1 H nx k->Q2 Tryz.prog 15 [a0,a1] H nx k:=Q12 [] [] []
theorem spec13:F13 a0 a1 H nx k->Q2 Tryz.prog 13 [a0,a1] H nx k:=Q12 [] [[5]] []
theorem spec28:F28 a0 H nx k->Q2 Tryz.prog 28 [a0] H nx k:=Q12 [] [[3]] []
theorem spec11:F11 a0 a1 H nx k->Q2 Tryz.prog 11 [a0,a1] H nx k:=Q12 [(6,[18])] [] [.one (.tst (.one .nil) (.one .nil))]
theorem spec25:F25 a0 a1 H nx k->Q2 Tryz.prog 25 [a0,a1] H nx k:=Q12 [(6,[25])] [[6,29],[54]] [.one (.tst (.one .nil) (.one .nil))]
theorem spec10:F10 a0 a1 H nx k->Q2 Tryz.prog 10 [a0,a1] H nx k:=Q12 [] [] []
theorem spec14:F14 a0 a1 H nx k->Q2 Tryz.prog 14 [a0,a1] H nx k:=Q12 [] [[31]] []
theorem spec3:F3 a0 a1 H nx k->Q2 Tryz.prog 3 [a0,a1] H nx k:=Q12 [] [] [.one (.tst (.one (.tst (.one (.tst (.one .nil) (.one .nil))) (.one (.one (.one .nil))))) (.one (.one (.one (.one (.one .nil)))))),.one (.tst (.one (.tst (.one .nil) (.one .nil))) (.one (.one (.one .nil)))),.one (.tst (.one (.tst (.one .nil) (.one .nil))) (.one (.one (.one .nil)))),.one (.tst (.one (.tst (.one .nil) (.one .nil))) (.one (.one (.one .nil)))),.one (.tst (.one (.tst (.one (.tst (.one .nil) (.one .nil))) (.one (.one (.one .nil))))) (.one (.one (.one (.one (.one .nil))))))]
end
def Y64:Code->Code
 | .seq a _=>a
 | c=>c
def J62:Code->Code
 | .seq _ b=>b
 | c=>c
def cw:Code:=Tryz.f37.body.getD .skip
def q0:Code:=Y64 cw
def q1:Code:=Y64 (J62 cw)
def q2:Code:=Y64 (J62 (J62 cw))
def mkC(c:Code)(ls:List (List Nat)):D:=match R18 Tryz.prog 58 c with
 | some c=>V12 c 0 [] ls [] fun d _ _ _ _=>d
 | none => .skip
def b0:D:=mkC q0 []
def b1:D:=mkC q1 []
def b2:D:=mkC q2 [[11,20]]
theorem c0:R18 Tryz.prog 58 q0=some b0.erase:=by kernel_rfl
theorem c1:R18 Tryz.prog 58 q1=some b1.erase:=by kernel_rfl
theorem c2:R18 Tryz.prog 58 q2=some b2.erase:=by kernel_rfl
theorem o0:b0.ok 58 6=true:=by kernel_rfl
theorem o1 : b1.ok 58 6 = true := by kernel_rfl
theorem o2 : b2.ok 58 6 = true := by kernel_rfl
def F37(a0 a1 a2 a3 a4:Value)(H:Y0)(nx:Nat)(k:EP):Prop:=
 E5 a0 fun t1=>J3 (.cells t1 0) .ptr H nx fun t2 H1 a8=>
 K6 1 1 [.int .u32 0] [(0,a3)] fun t3=>J3 (.cells t3 0) (.slice 1 1) H1 a8 fun t4 H2 nx2=>
 D10 .sub a4 (.int .i64 1) fun t5=>
 G3 (fun t6 t7 H3 E=>
 D10 .lss (t7.getD 1 undef) t5 fun t8=>
 K2 t8 (
 M2 (E+14) fun ab=>
 J1 t2 (some 32) H3 fun t9=>
 R4 (t7.getD 0 undef) 0 H3 fun O=>
 D10 .sub O (.int .i64 1) fun aa=>
 M3 (t7.getD 0 undef) aa none 1 fun J=>
 J1 J none H3 fun Q=>
 Y2 Tryz.prog 71 [t9,Q] H3 ab fun ag H5 a5=>
 D10 .and ag a1 fun a9=>
 K6 1 1 [.int .u32 0] [(0,a9)] fun Z=>wNm E 11 (.slice 1 1) fun a6=>
 E6 H5 (E+11) (some (.cells Z 0)) fun H6=>B5 (t7.getD 0 undef) a6 1 4 H6 a5 fun V H7 U=>
 (((((True)/\((True)/\((J1 J none H3 fun a7=>a7=Q)/\True)))/\(((True)/\((True)/\((R4 (t7.getD 0 undef) 0 H3 fun W=>W=O)/\True)))/\(((True)/\((True)/\((J1 t2 (some 32) H3 fun ac=>ac=t9)/\True)))/\True))))/\(
 D10 .add (t7.getD 1 undef) (.int .i64 1) fun ae=>
 t6 [V,ae] H7 U))\/False) (
 M0 (.tuple ⟨[t2,(t7.getD 0 undef),a2]⟩) fun ad=>k ad H3 E)) [t4,(.int .i64 0)] H2 nx2
def R61:List (X × Option (Option Nat)):=[(.s 5,none),(.s 11,none),(.s 2,none)]
theorem e37 (a0 a1 a2 a3 a4:Value) (H:Y0) (nx:Nat) (k:EP):J27 6 [a0,a1,a2,a3,a4] 0 .leaf (fun T=>wD Tryz.prog 6 b0 T H nx (fun T H nx=>wD Tryz.prog 6 b1 T H nx (fun T H nx=>wD Tryz.prog 6 b2 T H nx (G14 Tryz.prog R61 False k) (fun _ _ _ _=>False) (fun _ _ _=>False)) (fun _ _ _ _=>False) (fun _ _ _=>False)) (fun _ _ _ _=>False) (fun _ _ _=>False))=F37 a0 a1 a2 a3 a4 H nx k:=by kernel_rfl
end Go.Proofs.YtoiioigihocgbaaGreatDoor
namespace Go.Clo
theorem B47 {P:Program} {n d:Nat} (hm:P.follows .mixedOrders=true) (hn:n<=2^d) {G6:Code} {c:D} (hc:R18 P n G6=some c.erase) (hok:c.ok n d=true) {T:K0 Value} {H:Y0} {nx:Nat} (hw:WF d T) {k:K Prop}
  (h:wD P d c T H nx k (fun _ _ _ _=>False) (fun _ _ _=>False)):∃ T' H' nx',k T' H' nx'/\WF d T'/\R47 P d n G6 T H nx .n T' H' nx':=by
 obtain⟨o,T',H',nx',h1,hw',_,hok1⟩:=W45 hm hn G6 c hc hok T H nx k _ _ hw h
 cases o with
 | n=>exact⟨T',H',nx',h1,hw',hok1⟩
 | x id=>exact h1.elim
 | r=>exact h1.elim
end Go.Clo
namespace Go.Proofs.YtoiioigihocgbaaGreatDoor
open Go.Clo
section
variable {aL:List Nat} {N:Nat} (hN:N<=6) (hL:NbL aL N)
include hN hL
theorem Z35 {b:Nat} (hb:b<4294967296) (H:Y0) (nx:Nat):Q2 Tryz.prog 71 [.agg ⟨K12 aL⟩,.int .u32 (b:Int)] H nx fun r H' nx'=>r = .int .u32 (Q4 aL b 32:Int)/\D0 H nx H' nx':=by
 have hp64:2^N<=64:=Nat.pow_le_pow_right (n:=2) (by omega) hN
 refine spec71 ?_
 unfold F71
 have hE1:D0 H nx (hs H nx (some (.cells (K12 aL) 0))) (nx+1):=(D0.refl H nx).new _ (Nat.le_refl _) (by omega)
 have g1:J0 (hs H nx (some (.cells (K12 aL) 0))) nx=some (.cells (K12 aL) 0):=Z11 _ _ _
 simp (disch:=first|omega|assumption|exact G0 (by assumption)|exact U10 (by assumption)|exact X0 (by omega)|fail) only[W0,Q0.val,W5 aL]
 generalize hs H nx (some (.cells (K12 aL) 0))=H1 at *
 refine B1 (m:=32) (fun q L H' nx'=>∃ (j:Nat),q+j=32/\L=[.int .u32 (Q4 aL b j:Int),.int .i64 (j:Int)]/\H1=H'/\nx+1=nx') ?_ ⟨0,by omega,rfl,rfl,rfl⟩
 rintro q ih7 L _ _ ⟨j,hq,rfl,rfl,rfl⟩ hih7
 have hnl:=Z14 (b:=b) hL.lt
 by_cases hj:j<32
 case neg=>
  obtain rfl:j=32:=by omega
  simp (disch:=first|omega|assumption|exact G0 (by assumption)|exact U10 (by assumption)|exact X0 (by omega)|fail) only[W0]
  exact hE1
 have hj':(j:Int)<32:=by omega
 obtain⟨x,hx,hx2,hxD⟩:=hL.at (u:=j) hj
 have hx32:x<4294967296:=by omega
 have hnj:=hnl j
 have hn32:Q4 aL b j<4294967296:=by omega
 have gx:=Q3 hx
 have hstep:Q4 aL b (j+1)=if b.testBit j=true then Q4 aL b j ||| aL.getD j 0 else Q4 aL b j:=rfl
 rw[hxD] at hstep
 cases hbj:b.testBit j with
 | false=>
  rw[hbj,if_neg (by simp)] at hstep
  simp (disch:=first|omega|assumption|exact G0 (by assumption)|exact U10 (by assumption)|exact X0 (by omega)|fail) only[W0,hj',N13,hbj]
  exact hih7 (q-1) _ _ _ (by omega) ⟨j+1,by omega,by rw[hstep];try simp,rfl,rfl⟩
 | true=>
  rw[hbj,if_pos rfl] at hstep
  simp (disch:=first|omega|assumption|exact G0 (by assumption)|exact U10 (by assumption)|exact X0 (by omega)|fail) only[W0,hj',N13,hbj,g1,gx]
  exact hih7 (q-1) _ _ _ (by omega) ⟨j+1,by omega,by rw[hstep];try simp,rfl,rfl⟩
def C12(aL:List Nat)(inn last len:Nat):List Nat:=(aY len).map (U5 aL inn last)
omit hN hL in
theorem G45(inn last len:Nat):(C12 aL inn last len).length=len:=by simp[C12]
omit hN hL in
theorem G44{inn last len i:Nat}(h:i<len):(C12 aL inn last len)[i]? = some (U5 aL inn last i):=by simp[C12,h]
omit hN hL in
theorem J57(inn last len:Nat):C12 aL inn last (len+1)=C12 aL inn last len++[U5 aL inn last len]:=by simp[C12,List.range_succ]
theorem J59{inn last first len:Nat}(hi:inn<2^N)(Q:last<2^N)(hf:first<100)(h1:1<=len)(ab:len<=100)(H:Y0)(nx:Nat):
  F37 (.agg ⟨K12 aL⟩) (.int .u32 (inn:Int)) (.int .i64 (first:Int)) (.int .u32 (last:Int)) (.int .i64 (len:Int)) H nx fun v H' nx'=>
   ∃ S s,v = .tuple ⟨[.pointer (some ⟨nx,0,none⟩),.slice (some ⟨S,0,none⟩) len len,.int .i64 (first:Int)]⟩/\J0 H' nx=some (.cells (K12 aL) 0)/\J0 H' S=some (.cells (K12 (C12 aL inn last len)) s)/\nx<nx'/\S<nx':=by
 have a8:2^N<=64:=aK (n:=2) (by omega) hN;have a3:=M44 hN hL;unfold F37;have J:∀(x:Int) k,K6 1 1 [.int .u32 0] [(0,.int .u32 x)] k=k [.int .u32 x]:=fun x k=>rfl
 simp(disch:=first|omega|assumption)only[W0,Q0.val,W5 aL,J];have g1:J0 (hs (hs H nx (some (.cells (K12 aL) 0))) (nx+1) (some (.cells [.int .u32 (last:Int)] 0))) nx=some (.cells (K12 aL) 0):=by rw[Z1 _ (by omega),Z11]
 have g2:J0 (hs (hs H nx (some (.cells (K12 aL) 0))) (nx+1) (some (.cells [.int .u32 (last:Int)] 0))) (nx+1)=some (.cells [.int .u32 (last:Int)] 0):=Z11 _ _ _;generalize hs (hs H nx (some (.cells (K12 aL) 0))) (nx+1) (some (.cells [.int .u32 (last:Int)] 0))=H1 at *
 refine B1 (m:=len-1) (fun m L' H' nx'=>∃(i S s:Nat),m+i+1=len/\L'=[.slice (some ⟨S,0,none⟩) (i+1) (i+1),.int .i64 (i:Int)]/\J0 H' nx=some (.cells (K12 aL) 0)/\J0 H' S=some (.cells (K12 (C12 aL inn last (i+1))) s)/\(s=0\/s=1)/\nx<nx'/\S<nx'/\S≠nx) ?_
  ⟨0,nx+1,0,by omega,rfl,g1,by rw[g2];rfl,.inl rfl,by omega,by omega,by omega⟩
 rintro m ih L1 H2 n2 ⟨i,S,s,hm,rfl,k1,k2,hs',a1,W,ad⟩ a5;have Z:=G45 (aL:=aL) inn last (i+1)
 by_cases ag:i+1<len
 case neg=>
  obtain rfl:len=i+1:=by omega
  have E:¬ (i:Int)<((i+1:Nat):Int)-1:=by omega
  simp(disch:=first|omega|assumption)only[W0,E];exact⟨S,s,rfl,k1,k2,a1,W⟩
 have E:(i:Int)<(len:Int)-1:=by omega
 have q0:=Q3 (G44 (aL:=aL) (inn:=inn) (last:=last) (show i<i+1 by omega));have e1:(((i+1:Nat):Int)-1).toNat=i:=by omega
 have ae:U5 aL inn last i<2^N:=R42 hi Q i;have aa:=Z14 (b:=U5 aL inn last i) hL.lt 32;have ac:Q4 aL (U5 aL inn last i) 32<4294967296:=by omega
 have ah:inn<4294967296:=by omega
 simp(config:={ maxSteps:=2000000 }) (disch:=first|omega|assumption)only[W0,E,k1,k2,q0,e1,M18 a3];refine R0 (Z35 hN hL (by omega) H2 (n2+14)) ?_;rintro _ H3 n3 ⟨rfl,h3⟩;have a9:=h3.le;have U:=(h3.get nx (by omega)).trans k1;have V:=(h3.get S (by omega)).trans k2;simp(config:={ maxSteps:=2000000 }) (disch:=first|omega|assumption)only[W0,J];have es:Q4 aL (U5 aL inn last i) 32 &&& inn=U5 aL inn last (i+1):=rfl;rw[es];have g5:J0 (hs H3 (n2+11) (some (.cells [.int .u32 (U5 aL inn last (i+1):Int)] 0))) (n2+11)=some (.cells [.int .u32 (U5 aL inn last (i+1):Int)] 0):=Z11 _ _ _;have a4:J0 (hs H3 (n2+11) (some (.cells [.int .u32 (U5 aL inn last (i+1):Int)] 0))) nx=some (.cells (K12 aL) 0):=by rw[Z1 _ (by omega)];exact U
 have a0:J0 (hs H3 (n2+11) (some (.cells [.int .u32 (U5 aL inn last (i+1):Int)] 0))) S=some (.cells (K12 (C12 aL inn last (i+1))) s):=by rw[Z1 _ (by omega)];exact V
 generalize hs H3 (n2+11) (some (.cells [.int .u32 (U5 aL inn last (i+1):Int)] 0))=H5 at *
 have O:(K12 (C12 aL inn last (i+1))).length=i+1:=by rw[E1,Z]
 have a2:∀ kk:EP,(∀ H',J0 H' n3=some (.cells (K12 (C12 aL inn last (i+1+1))) 1)->(∀ j,j≠n3->j≠S->J0 H' j=J0 H5 j)->kk (.slice (some ⟨n3,0,none⟩) (i+1+1) (i+1+1)) H' (n3+1)) ->
   B5 (.slice (some ⟨S,0,none⟩) (i+1) (i+1)) (.slice (some ⟨n2+11,0,none⟩) 1 1) 1 4 H5 n3 kk:=fun kk a7=>by
  have:=Q64 (nx:=n3) (k:=kk) (bytes:=4) a0 hs' (by omega) (J9 (cap:=1) g5 rfl (by omega)) rfl (by omega) (by omega) (fun H' q1 q2=>by
   rw[O];exact a7 H' (by rw[q1,J57 inn last (i+1),Y22];rfl) q2)
  rwa [O] at this
 refine a2 _ ?_;intro H7 g7 f7;have a6:=(f7 nx (by omega) (by omega)).trans a4;exact a5 (m-1) _ _ _ (by omega) ⟨i+1,n3,1,by omega,by simp,a6,g7,.inr rfl,by omega,by omega,by omega⟩
end
section
open Go.RowKit Go.Shelf
theorem R70(a:Array Value)(h:a.size=58):∃ x0 x1 x2 x3 x4 x5 x6 x7 x8 x9 aj b3 a0 b4 ak E az ag a2 al Q W ax b5 ao ai a3 J a5 U a1 a6 aq a7 a4 ad ay ac ba O bc ae au b8 ab Z V bf an a9 av ah bd aa bg aw a8 ap,a = #[x0,x1,x2,x3,x4,x5,x6,x7,x8,x9,aj,b3,a0,b4,ak,E,az,ag,a2,al,Q,W,ax,b5,ao,ai,a3,J,a5,U,a1,a6,aq,a7,a4,ad,ay,ac,ba,O,bc,ae,au,b8,ab,Z,V,bf,an,a9,av,ah,bd,aa,bg,aw,a8,ap]:=by
 obtain⟨l⟩:=a;simp only[List.size_toArray] at h;obtain _ | ⟨x0,l⟩:=l
 .simp at h
 obtain _ | ⟨x1,l⟩:=l
 .simp at h
 obtain _ | ⟨x2,l⟩:=l
 .simp at h
 obtain _ | ⟨x3,l⟩:=l
 .simp at h
 obtain _ | ⟨x4,l⟩:=l
 .simp at h
 obtain _ | ⟨x5,l⟩:=l
 .simp at h
 obtain _ | ⟨x6,l⟩:=l
 .simp at h
 obtain _ | ⟨x7,l⟩:=l
 .simp at h
 obtain _ | ⟨x8,l⟩:=l
 .simp at h
 obtain _ | ⟨x9,l⟩:=l
 .simp at h
 obtain _ | ⟨aj,l⟩:=l
 .simp at h
 obtain _ | ⟨b3,l⟩:=l
 .simp at h
 obtain _ | ⟨a0,l⟩:=l
 .simp at h
 obtain _ | ⟨b4,l⟩:=l
 .simp at h
 obtain _ | ⟨ak,l⟩:=l
 .simp at h
 obtain _ | ⟨E,l⟩:=l
 .simp at h
 obtain _ | ⟨az,l⟩:=l
 .simp at h
 obtain _ | ⟨ag,l⟩:=l
 .simp at h
 obtain _ | ⟨a2,l⟩:=l
 .simp at h
 obtain _ | ⟨al,l⟩:=l
 .simp at h
 obtain _ | ⟨Q,l⟩:=l
 .simp at h
 obtain _ | ⟨W,l⟩:=l
 .simp at h
 obtain _ | ⟨ax,l⟩:=l
 .simp at h
 obtain _ | ⟨b5,l⟩:=l
 .simp at h
 obtain _ | ⟨ao,l⟩:=l
 .simp at h
 obtain _ | ⟨ai,l⟩:=l
 .simp at h
 obtain _ | ⟨a3,l⟩:=l
 .simp at h
 obtain _ | ⟨J,l⟩:=l
 .simp at h
 obtain _ | ⟨a5,l⟩:=l
 .simp at h
 obtain _ | ⟨U,l⟩:=l
 .simp at h
 obtain _ | ⟨a1,l⟩:=l
 .simp at h
 obtain _ | ⟨a6,l⟩:=l
 .simp at h
 obtain _ | ⟨aq,l⟩:=l
 .simp at h
 obtain _ | ⟨a7,l⟩:=l
 .simp at h
 obtain _ | ⟨a4,l⟩:=l
 .simp at h
 obtain _ | ⟨ad,l⟩:=l
 .simp at h
 obtain _ | ⟨ay,l⟩:=l
 .simp at h
 obtain _ | ⟨ac,l⟩:=l
 .simp at h
 obtain _ | ⟨ba,l⟩:=l
 .simp at h
 obtain _ | ⟨O,l⟩:=l
 .simp at h
 obtain _ | ⟨bc,l⟩:=l
 .simp at h
 obtain _ | ⟨ae,l⟩:=l
 .simp at h
 obtain _ | ⟨au,l⟩:=l
 .simp at h
 obtain _ | ⟨b8,l⟩:=l
 .simp at h
 obtain _ | ⟨ab,l⟩:=l
 .simp at h
 obtain _ | ⟨Z,l⟩:=l
 .simp at h
 obtain _ | ⟨V,l⟩:=l
 .simp at h
 obtain _ | ⟨bf,l⟩:=l
 .simp at h
 obtain _ | ⟨an,l⟩:=l
 .simp at h
 obtain _ | ⟨a9,l⟩:=l
 .simp at h
 obtain _ | ⟨av,l⟩:=l
 .simp at h
 obtain _ | ⟨ah,l⟩:=l
 .simp at h
 obtain _ | ⟨bd,l⟩:=l
 .simp at h
 obtain _ | ⟨aa,l⟩:=l
 .simp at h
 obtain _ | ⟨bg,l⟩:=l
 .simp at h
 obtain _ | ⟨aw,l⟩:=l
 .simp at h
 obtain _ | ⟨a8,l⟩:=l
 .simp at h
 obtain _ | ⟨ap,l⟩:=l
 .simp at h
 obtain _ | ⟨y,l⟩:=l
 .exact⟨x0,x1,x2,x3,x4,x5,x6,x7,x8,x9,aj,b3,a0,b4,ak,E,az,ag,a2,al,Q,W,ax,b5,ao,ai,a3,J,a5,U,a1,a6,aq,a7,a4,ad,ay,ac,ba,O,bc,ae,au,b8,ab,Z,V,bf,an,a9,av,ah,bd,aa,bg,aw,a8,ap,rfl⟩
 .simp at h
def Z8(aL:List Nat)(inn first last len:Nat):List Value:=[.agg ⟨K12 aL⟩,.int .u32 (inn:Int),.int .i64 (first:Int),.int .u32 (last:Int),.int .i64 (len:Int)]
theorem J25:∀ l:List Nat,(K12 l).all M4=true
 | []=>rfl
 | x :: l=>J25 l
theorem V64{aL:List Nat}{N:Nat}(hN:N<=6)(hL:NbL aL N){inn last first len:Nat}(hi:inn<2^N)(W:last<2^N)(hf:first<100)(h1:1<=len)(J:len<=100)
  (w:World)(hg:GlW w)(Q:Exit->Act->World->Prop)(rest:Code)
  (hk:∀(a:Act)(w':World)(B0 o0 S os cs:Nat),a.defers=[]->a.tmps.size=58->a.tmps.getD 2 undef = .int .i64 (first:Int)->a.tmps.getD 5 undef = .pointer (some ⟨B0,o0,none⟩)->a.tmps.getD 11 undef = .slice (some ⟨S,os,none⟩) len cs ->
   (∀ u x:Nat,aL[u]? = some x->w'.cell? ⟨B0,o0+u,none⟩=some (.int .u32 (x:Int)))->(∀ i,i<len->w'.cell? ⟨S,os+i,none⟩=some (.int .u32 (U5 aL inn last i:Int)))->GlW w'->RowKit.Below w.heap.size w w' ->
   B0<w'.heap.size->S<w'.heap.size->rest.wpIn Fence.wide 5 Tryz.prog Q a w'):
  (Code.seq q0 (.seq q1 (.seq q2 rest))).wpIn Fence.wide 5 Tryz.prog Q { tmps:=(Z8 aL inn first last len).toArray++fN (58-(Z8 aL inn first last len).toArray.size) undef,defers:=[] } w:=by
 have E:=J59 hN hL hi W hf h1 J .leaf 0;rw[<- e37,Z24] at E;have hn:58<=2^6:=by decide
 have a5:(Z8 aL inn first last len).length<=58:=by show 5<=58;decide
 have wl:WF 6 (.leaf:K0 Value):=trivial;have w0:WF 6 (R17 6 (Z8 aL inn first last len) 0 .leaf):=Y19 6 _ 0 .leaf wl;obtain⟨T1,H1,n1,r1,w1,k1⟩:=B47 mixed hn c0 o0 w0 E;obtain⟨T2,H2,n2,r2,w2,k2⟩:=B47 mixed hn c1 o1 w1 r1;obtain⟨T3,H3,n3,r3,w3,k3⟩:=B47 mixed hn c2 o2 w2 r2;have er:G14 Tryz.prog R61 False (fun v H' nx'=>∃ S s,v = .tuple ⟨[.pointer (some ⟨0,0,none⟩),.slice (some ⟨S,0,none⟩) len len,.int .i64 (first:Int)]⟩/\J0 H' 0=some (.cells (K12 aL) 0)/\J0 H' S=some (.cells (K12 (C12 aL inn last len)) s)/\0<nx'/\S<nx') T3 H3 n3 =
   ∃ S s,Value.tuple ⟨[(tg T3 5).getD undef,(tg T3 11).getD undef,(tg T3 2).getD undef]⟩ = .tuple ⟨[.pointer (some ⟨0,0,none⟩),.slice (some ⟨S,0,none⟩) len len,.int .i64 (first:Int)]⟩/\J0 H3 0=some (.cells (K12 aL) 0)/\J0 H3 S=some (.cells (K12 (C12 aL inn last len)) s)/\0<n3/\S<n3:=by
  unfold G14 R61;simp only[W24,G2,Y5];have es:∀ i,ev T3 (.s i)=(tg T3 i).getD undef:=fun i=>by
   show tgK T3 i (id undef) id=_;rw[J11];cases tg T3 i<;>rfl
  rw[es,es,es]
  rfl
 rw[er] at r3;obtain⟨S,s,et,g0,gS,a0,Z⟩:=r3;simp only[Value.tuple.injEq,Array.mk.injEq,fM,and_true] at et;obtain⟨f5,a4,f2⟩:=et;have V:VL (fun _=>none) (Z8 aL inn first last len) (Z8 aL inn first last len) := .cons (VR.agg' (J10 _ _ (J25 aL))) (.cons (.int _ _) (.cons (.int _ _) (.cons (.int _ _) (.cons (.int _ _) .nil))));refine wpIn_seq (wpIn_wide.2 (k1 (fun _=>none) _ w _ (W32 V hn a5) (In.start w hg).hr fun F1 a1 W1 t1 p1 d1 => ?_));refine wpIn_seq (wpIn_wide.2 (k2 F1 a1 W1 _ t1 p1.hr fun F2 a2 W2 t2 p2 d2 => ?_));refine wpIn_seq (wpIn_wide.2 (k3 F2 a2 W2 _ t2 p2.hr fun F3 a3 W3 t3 p3 d3 => ?_));have p:=(p1.trans p2).trans p3;have v2:=t3.get 2 (by decide);have v5:=t3.get 5 (by decide);have U:=t3.get 11 (by decide);rw[f2] at v2;rw[f5] at v5;rw[a4] at U;obtain⟨_,t,hF,e5⟩:=v5.ptr_inv;obtain⟨_,tt,cc,O,a6,_⟩:=U.slice_inv;have S0:Sl H3 n3 (some ⟨0,0,none⟩) (K12 aL):=fun i u hu=>⟨0,0,K12 aL,rfl,a0,by simp[Q5,g0,V3.row],by simpa using hu⟩
 have S1:Sl H3 n3 (some ⟨S,0,none⟩) (K12 (C12 aL inn last len)):=fun i u hu=>⟨S,0,K12 (C12 aL inn last len),rfl,Z,by simp[Q5,gS,V3.row],by simpa using hu⟩
 have hb:RowKit.Below w.heap.size w W3:=⟨p.os,p.tape,p.output,p.size,fun b hb=>p.frame b hb fun⟨i,_,_,hi,_⟩=>by simp at hi⟩
 refine hk a3 W3 t.blk (t.base+0) tt.blk (tt.base+0) cc (by rw[d3,d2,d1]) t3.size ?_ e5 a6 (fun u x hx => ?_) (fun i hi => ?_) p3.hr.gl.1 hb (W40 p3.hr hF S0 (by rw[E1,hL.len];decide)) (W40 p3.hr O S1 (by rw[E1,G45];omega))
 .generalize a3.tmps.getD 2 undef=z at v2
  cases v2;rfl
 .obtain⟨v0,c0,r0⟩:=U23 p3.hr hF S0 (Q3 hx)
  cases r0;exact c0
 .obtain⟨v0,c0,r0⟩:=U23 p3.hr O S1 (Q3 (G44 hi))
  cases r0;exact c0
end
end Go.Proofs.YtoiioigihocgbaaGreatDoor
namespace Go.Clo
section
variable {H H':Y0} {M:Nat->Option Value} {r:Nat}
def D4(H:Y0)(r:Nat)(M:Nat->Option Value):Prop:=∃ es c,J0 H r=some (.map es c)/\(∀ x ∈ es,MapKept.IsKey (.int .i64) x.key) /\
 (∀(i j:Nat) (x y:MapEntry),es[i]? = some x->es[j]? = some y->x.key=y.key->i=j)/\∀(n:Nat) (v:Value),M n=some v<->∃ x ∈ es,x.key = .int .i64 (n:Int)/\x.val=v
theorem D4.same(h:D4 H r M)(e:J0 H' r=J0 H r):D4 H' r M:=by
 obtain⟨es,c,h1,h2,h3,h4⟩:=h;exact⟨es,c,by rw[e];exact h1,h2,h3,h4⟩
theorem D4.ext{nx:Nat}{nx':Nat}(h:D4 H r M)(hr:r<nx)(e:D0 H nx H' nx'):D4 H' r M:=h.same (e.get r hr)
theorem D4.congr{M':Nat->Option Value}(h:D4 H r M)(e:∀ n,M' n=M n):D4 H r M':=by rw[show M'=M from funext e];exact h
theorem D4.nil{c:Nat}(h:J0 H r=some (.map [] c)):D4 H r fun _=>none:=⟨[],c,h,by simp,by simp,by simp⟩
theorem D4.find{es:List MapEntry}{M:Nat->Option Value}(h2:∀ x ∈ es,MapKept.IsKey (.int .i64) x.key)(h3:∀(i j:Nat)(x y:MapEntry),es[i]? = some x->es[j]? = some y->x.key=y.key->i=j)
  (h4:∀(n:Nat)(v:Value),M n=some v<->∃ x ∈ es,x.key = .int .i64 (n:Int)/\x.val=v)(n:Nat):
  (M n=none/\dP (.int .i64) (.int .i64 (n:Int)) es 0=some none/\∀ x ∈ es,x.key ≠ .int .i64 (n:Int))\/∃ j e,M n=some e.val/\dP (.int .i64) (.int .i64 (n:Int)) es 0=some (some (j,e.val))/\es[j]? = some e/\e.key = .int .i64 (n:Int):=by
 rcases MapKept.findNow_spec (d := .int .i64) (k := .int .i64 (n:Int)) rfl es 0 h2 with ⟨h,hn⟩ | ⟨j,e,h,hj,hk⟩
 .refine .inl ⟨?_,h,hn⟩
  cases hM:M n with
  | none=>rfl
  | some v=>
   obtain⟨x,hx,E,_⟩:=(h4 n v).1 hM;exact absurd E (hn x hx)
 .refine .inr ⟨j,e,(h4 n _).2 ⟨e,aH hj,hk,rfl⟩,?_,hj,hk⟩
  rw[h,cF]
theorem D4.lk{r:Nat}{M:Nat->Option Value}(h:D4 H r M)(n:Nat)(z:Value)(ok:Bool)(k:VP):
  wLk (.int .i64) z (.map (some r)) (.int .i64 (n:Int)) ok H k=(M n).elim (cond ok (k (.tuple ⟨[z,.bool false]⟩)) (k z)) fun v=>cond ok (k (.tuple ⟨[v,.bool true]⟩)) (k v):=by
 obtain⟨es,c,h1,h2,h3,h4⟩:=h;unfold wLk;rw[show Q9 (.int .i64) (.int .i64 (n:Int))=true from rfl];simp only[cond_true];rw[Y4,h1];simp only[aN];rcases D4.find h2 h3 h4 n with ⟨hM,hf,_⟩ | ⟨j,e,hM,hf,_⟩
 .rw[hf,hM];rfl
 .rw[hf,hM];rfl
theorem D4.lkN'{M:Nat->Option Value}(h:D4 H r M){n:Nat}(hn:M n=none)(z:Value)(k:VP):wLk (.int .i64) z (.map (some r)) (.int .i64 (n:Int)) false H k=k z:=by
 rw[h.lk,hn];rfl
theorem D4.lkS'{M:Nat->Option Value}(h:D4 H r M){n:Nat}{v:Value}(hn:M n=some v)(z:Value)(k:VP):wLk (.int .i64) z (.map (some r)) (.int .i64 (n:Int)) false H k=k v:=by
 rw[h.lk,hn];rfl
theorem M31{n m:Nat}(h:cD .i64 (n:Int) = .int .i64 (m:Int)):n=m:=by
 injection h with _ h;omega
theorem D4.put{nx r:Nat}{M:Nat->Option Value}(h:D4 H r M)(n:Nat)(v:Value){k:EP}(hk:∀ es c,D4 (hs H r (some (.map es c))) r (fun t=>if t=n then some v else M t)->k undef (hs H r (some (.map es c))) nx):
  W56 (.int .i64) (.map (some r)) (.int .i64 (n:Int)) v H nx k:=by
 obtain⟨es,c,h1,h2,h3,h4⟩:=h;unfold W56;dsimp only;rw[Y4,h1];simp only[aN,G52];rw[show Q9 (.int .i64) (.int .i64 (n:Int))=true from rfl];rcases D4.find h2 h3 h4 n with ⟨hM,hf,V⟩ | ⟨j,e,hM,hf,hj,U⟩
 .rw[hf]
  simp only[cond_true];rw[V14,G1,G4];refine hk _ _ ⟨_,_,Z11 _ _ _,?_,?_,fun t u => ?_⟩
  .intro x hx
   rcases dN.1 hx with hx | hx
   .exact h2 x hx
   .rw[dJ.1 hx];rfl
  .intro i j x y hx hy O
   rw[List.getElem?_append] at hx hy
   split at hx<;>split at hy
   .exact h3 i j x y hx hy O
   .have Z:y={ key := .int .i64 (n:Int),val:=v,born:=c }:=by
     have:=aH hy;simpa using this
    rw[Z] at O;exact absurd O (V x (aH hx))
   .have a1:x={ key := .int .i64 (n:Int),val:=v,born:=c }:=by
     have:=aH hx;simpa using this
    rw[a1] at O;exact absurd O.symm (V y (aH hy))
   .have h5:=(aJ.1 hx).1
    have h6:=(aJ.1 hy).1;simp at h5 h6;omega
  .by_cases Q:t=n
   .subst Q
    dsimp only;rw[if_pos rfl]
    constructor
    .intro hu
     cases hu
     exact⟨_,List.mem_append_right _ (dJ.2 rfl),rfl,rfl⟩
    .rintro⟨x,hx,E,J⟩
     rcases dN.1 hx with hx | hx
     .exact absurd E (V x hx)
     .rw[dJ.1 hx] at J
      rw[<- J]
   .dsimp only
    rw[if_neg Q,h4]
    constructor
    .rintro⟨x,hx,h⟩
     exact⟨x,dX _ hx,h⟩
    .rintro⟨x,hx,E,J⟩
     rcases dN.1 hx with hx | hx
     .exact⟨x,hx,E,J⟩
     .rw[dJ.1 hx] at E
      exact absurd (M31 E).symm Q
 .rw[hf]
  simp only[cond_true];rw[Q8,hj];simp only;rw[V14,G4,K25];have a0:=(aJ.1 hj).1;refine hk _ _ ⟨_,_,Z11 _ _ _,?_,?_,fun t u => ?_⟩
  .intro x hx
   rcases List.mem_or_eq_of_mem_set hx with hx | rfl
   .exact h2 x hx
   .rfl
  .intro i i' x y hx hy O
   rw[cQ] at hx hy
   split at hx<;>split at hy
   .omega
   .rename_i g1 g2
    try rw[if_pos (by omega)] at hx
    cases hx
    have:=h3 j i' e y hj hy (U.trans O);omega
   .rename_i g1 g2
    try rw[if_pos (by omega)] at hy
    cases hy
    have:=h3 i j x e hx hj (O.trans U.symm);omega
   .exact h3 i i' x y hx hy O
  .by_cases Q:t=n
   .subst Q
    dsimp only;rw[if_pos rfl]
    constructor
    .intro hu
     cases hu
     exact⟨_,List.mem_set a0 _,rfl,rfl⟩
    .rintro⟨x,hx,E,J⟩
     obtain⟨i,hi⟩:=cH hx;rw[cQ] at hi
     split at hi
     .try rw[if_pos (by omega)] at hi
      cases hi
      rw[<- J]
     .rename_i g
      exact absurd (h3 j i e x hj hi (U.trans E.symm)) g
   .dsimp only
    rw[if_neg Q,h4]
    constructor
    .rintro⟨x,hx,E,J⟩
     obtain⟨i,hi⟩:=cH hx;have W:j≠i:=by
      rintro rfl;rw[hj] at hi
      cases hi
      exact Q (M31 (E.symm.trans U))
     refine⟨x,aH (i:=i) ?_,E,J⟩;rw[cQ,if_neg W];exact hi
    .rintro⟨x,hx,E,J⟩
     obtain⟨i,hi⟩:=cH hx;rw[cQ] at hi
     split at hi
     .try rw[if_pos (by omega)] at hi
      cases hi
      exact absurd (M31 E).symm Q
     .exact⟨x,aH hi,E,J⟩
theorem D4.clr(h:D4 H r M){k:Y0->Prop}(hk:∀ c,D4 (hs H r (some (.map [] c))) r (fun _=>none)->k (hs H r (some (.map [] c)))):M41 (.map (some r)) H k:=by
 obtain⟨es,c,h1,h2,h3,h4⟩:=h;unfold M41;dsimp only;rw[Y4,h1];simp only[aN];rw[G4];exact hk _ (D4.nil (Z11 _ _ _))
end
section
variable {A:Nat->Nat->Prop} {P Q:Nat->Prop} {u v w:Nat}
inductive V9 (A:Nat->Nat->Prop) (P:Nat->Prop):Nat->Nat->Prop
 | one {u w:Nat}:A u w->V9 A P u w
 | more {u x w:Nat}:A u x->P x->V9 A P x w->V9 A P u w
theorem V9.mono(h:∀ x,P x->Q x)(r:V9 A P u w):V9 A Q u w:=by
 induction r with
 | one h1=>exact .one h1
 | more h1 h2 _ ih=>exact .more h1 (h _ h2) ih
theorem V9.trans{x:Nat}(r:V9 A P u x)(hx:P x)(s:V9 A P x w):V9 A P u w:=by
 induction r with
 | one h1=>exact .more h1 hx s
 | more h1 h2 _ ih=>exact .more h1 h2 (ih hx s)
theorem V9.symm(hA:∀ a b,A a b->A b a)(r:V9 A P u w):V9 A P w u:=by
 induction r with
 | one h1=>exact .one (hA _ _ h1)
 | more h1 h2 _ ih=>exact ih.trans h2 (.one (hA _ _ h1))
theorem V9.split(h:∀ x,Q x->P x\/x=v)(r:V9 A Q u w):V9 A P u w\/(V9 A P u v/\V9 A P v w):=by
 induction r with
 | one h1=>exact .inl (.one h1)
 | @more a x b h1 h2 _ ih=>
  rcases h x h2 with hx | rfl
  .rcases ih with ih | ⟨i1,i2⟩
   .exact .inl (.more h1 hx ih)
   .exact .inr ⟨.more h1 hx i1,i2⟩
  .rcases ih with ih | ⟨i1,i2⟩
   .exact .inr ⟨.one h1,ih⟩
   .exact .inr ⟨.one h1,i2⟩
theorem V9.join(hA:∀ a b,A a b->A b a)(h:∀ x,P x->Q x)(hv:Q v)(r:V9 A P v u)(s:V9 A P v w):V9 A Q u w:=
 ((r.symm hA).mono h).trans hv (s.mono h)
end
end Go.Clo
