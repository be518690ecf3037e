/-
  Contract: elimination.Best.
  Plain: what hypergraph.Obstruction computes,function by function.
  MADE BY PROGRAM (wip/gen/gen.py): functions 65 63 64 30 91 67 68 66 31 32 12 as marked code,and their claims written out.
  Contracts: connex.adjacency,checkFree,below (as those of package elimination).
  Contracts: hypergraph.distance,cycleLength.
  Contracts: the closure of hypergraph.shortestCycle,shortestCycle.
  Contracts: hypergraph.shortestCycle,size,escapes,disjoint.
-/
import Derived.Test.YtoiioigihocgbaaGreatDoorD13
import Derived.Test.YtoiioigihocgbaaGreatDoorD12
import Derived.KernelRfl
import Derived.Test.YtoiioigihocgbaaGreatDoorD11
set_option maxHeartbeats 8000000
set_option maxRecDepth 100000
set_option linter.all false
noncomputable section
open BitVec renaming ofInt->cT,toNat_ofNat->eP
open Bool renaming and_eq_true->aG,eq_false_iff->bN,or_eq_true->cO
open Go.IntKind renaming u32->eW
open Go.Value renaming bool->dU
open List renaming foldl_cons->dF,getD_eq_getElem?_getD->aP,getElem?_append_left->bQ,getElem?_eq_getElem->aE,getElem?_eq_none->aT,getElem?_eq_some_iff->aJ,getElem?_map->cP,getElem?_set->cQ,getElem_of_mem->gL,length_append->bH,length_cons->cV,length_map->gM,length_set->dO,length_take->cK,mem_cons->aU,mem_filter->dA,mem_map->gN,mem_of_getElem?->aH,pairwise_iff_getElem->fD,range->aY,replicate->aF
open Nat renaming add_assoc->eH,eq_of_beq_eq_true->bT,eq_of_testBit_eq->bZ,le_refl->aD,lt_of_le_of_lt->cE,mul_le_mul->eL,mul_one->eQ,pow_le_pow_right->aK,testBit_or->aV,testBit_two_pow_sub_one->dC,two_pow_pos->aQ,zero_add->cF,zero_testBit->cN
open Option renaming elim_some->aN,isSome_none->gO
open Option.some renaming inj->fA
namespace Go.Clo
theorem R98{N:Int}{A:Option Addr}{l c:Nat}{nb:List Nat}{a b:Option Nat}(h:nb.length=32)(k:VP):U11 [.int .i64 0,.slice none 0 0,.int .u32 0,.int .u32 0,.int .u32 0,.int .u32 0,.int .u32 0,.int .u32 0,.int .u32 0,.int .u32 0,.int .u32 0,.int .u32 0,.int .u32 0,.int .u32 0,.int .u32 0,.int .u32 0,.int .u32 0,.int .u32 0,.int .u32 0,.int .u32 0,.int .u32 0,.int .u32 0,.int .u32 0,.int .u32 0,.int .u32 0,.int .u32 0,.int .u32 0,.int .u32 0,.int .u32 0,.int .u32 0,.int .u32 0,.int .u32 0,.int .u32 0,.int .u32 0,.map none,.map none] [(0,2),(2,32),(34,1),(35,1)] [(0,.agg ⟨[.int .i64 N,.slice A l c]⟩),(1,.agg ⟨K12 nb⟩),(2,.map a),(3,.map b)] k=k (.agg ⟨.int .i64 N :: .slice A l c :: (K12 nb++[.map a,.map b])⟩):=by
 match nb,h with
 | [a0,a1,a2,a3,a4,a5,a6,a7,a8,a9,a10,a11,a12,a13,a14,a15,a16,a17,a18,a19,a20,a21,a22,a23,a24,a25,a26,a27,a28,a29,a30,a31],_=>exact V14 _ _
theorem E83(N:Int)(A:Option Addr)(l c:Nat)(a b:Option Nat):∀ nb:List Nat,Z0 (.int .i64 N :: .slice A l c :: (K12 nb++[.map a,.map b]))=true:=by
 intro nb;show Z0 (K12 nb++[.map a,.map b])=true
 induction nb with
 | nil=>rfl
 | cons x nb ih=>exact ih
theorem Sl.write{H:Y0}{nx i s:Nat}{A:Option Addr}{l r:List Value}{b:Option V3}(h:Sl H nx A l)(hg:J0 H i=some (.cells r s))(J:∀ v ∈ l,v ∉ r):Sl (Go.Clo.hs H i b) nx A l:=by
 intro j v hv;obtain⟨q,o,row,e1,e2,e3,e4⟩:=h j v hv;refine⟨q,o,row,e1,e2,?_,e4⟩;have hq:q≠i:=by
  rintro rfl;have E:row=r:=by rw[Q5,hg] at e3;exact(fA e3).symm
  subst E;exact J v (aH hv) (aH e4)
 rw[Q5,Z1 _ hq];exact e3
theorem E40(aL:List Nat)(N:Nat):∀(f l:Nat),(R8 aL N f l).length<=f
 | 0,_=>aD _
 | f+1,l=>by
  show(if l=0 then [] else _:List Nat).length<=f+1
  split
  .simp
  .simp only[cV]
   have:=E40 aL N f (Z2 l (W7 aL N N 0 (2^tz l)));omega
end Go.Clo
namespace Go.Proofs.YtoiioigihocgbaaGreatDoor
open Go.Clo
def bnd(N f:Nat):Nat:=Z2 (2^N-1) (2^f-1)
theorem E77{N f w:Nat}:(bnd N f).testBit w=true<->w<N/\f<=w:=by
 unfold bnd;rw[N1,dC,dC];simp
def Z20(es:List Nat)(N f:Nat):List Nat:=(D19 (D14 es (bnd N f)) N).filter fun c=>decide (c &&& bnd N f≠0)
theorem U24{es:List Nat}{N u w:Nat}(hN:N<=32):((B2 es N).getD u 0).testBit w=true<->u<N/\w<N/\adj es u w=true:=by
 rw[aP]
 by_cases hu:u<32
 .simp only[B2,cP,List.getElem?_range hu,Option.map_some,Option.getD_some]
  by_cases h:u<N
  .rw[if_pos h,E26];simp[h]
  .rw[if_neg h];simp[h]
 .have:(B2 es N)[u]? = none:=aT (by rw[N9];omega)
  rw[this];simp;omega
theorem M37{es:List Nat}{N:Nat}(hN:N<=32):∀ u w,((B2 es N).getD u 0).testBit w=true->((B2 es N).getD w 0).testBit u=true:=by
 intro u w h;obtain⟨h1,h2,h3⟩:=(U24 hN).1 h;exact(U24 hN).2 ⟨h2,h1,by rw[Z43];exact h3⟩
theorem M56{es:List Nat}{N:Nat}(hN:N<=6):(∀ c ∈ D19 es N,∃ v,v<N/\V53 (B2 es N) N v c)/\(D19 es N).Pairwise (fun c d=>∀ w,c.testBit w=true->d.testBit w=false) /\
  (∀ w,w<N<->∃ c ∈ D19 es N,c.testBit w=true):=by
 have E:2^N<=64:=aK (n:=2) (by omega) hN;have J:0<2^N:=aQ N;obtain⟨h1,h2,h3⟩:=C33 (aL:=B2 es N) (N:=N) N30 E (M37 (by omega)) N (2^N-1) (Q15 _ _) (by omega) (fun u w _ hw=>by
  rw[dC];simpa using ((U24 (by omega)).1 hw).2.1)
 refine⟨h1,h2,fun w => ?_⟩;rw[show D19 es N=R8 (B2 es N) N N (2^N-1) from rfl,<- h3 w,dC];simp
def D94(es:List Nat)(N f l:Nat):Rat:=match (Z20 es N f).find? (fun c=>decide (Z2 l c=0)) with
 | some c=>M45 N (Y25 es (B2 es N) N c) l
 | none=>0
theorem M34 {l c:Nat}:Z2 l c=0<->∀ w,l.testBit w=true->c.testBit w=true:=by
 constructor
 .intro h w hw
  have:=N1 l c w
  rw[h,hw,Nat.zero_testBit] at this
  simpa using this.symm
 .intro h
  apply Nat.eq_of_testBit_eq
  intro w
  rw[N1,Nat.zero_testBit]
  cases hl:l.testBit w with
  | false=>rfl
  | true=>rw[h w hl];rfl
theorem J108{es:List Nat}{N f:Nat}(hN:N<=6){c:Nat}(hc:c ∈ Z20 es N f){l:Nat}(h0:l≠0)(hl:∀ w,l.testBit w=true->c.testBit w=true):D94 es N f l=M45 N (Y25 es (B2 es N) N c) l:=by
 obtain⟨u,hu⟩:=B14 h0;have E:=(M56 (es:=D14 es (bnd N f)) hN).2.1.filter (fun c=>decide (c &&& bnd N f≠0));rw[show(D19 (D14 es (bnd N f)) N).filter (fun c=>decide (c &&& bnd N f≠0))=Z20 es N f from rfl] at E;unfold D94
 cases J:(Z20 es N f).find? (fun c=>decide (Z2 l c=0)) with
 | none=>
  have:=List.find?_eq_none.1 J c hc;rw[M34.2 hl] at this;simp at this
 | some d=>
  have h1:=List.find?_some J;have h2:=List.mem_of_find?_eq_some J;have h3:=M34.1 (of_decide_eq_true h1);have:d=c:=by
   obtain⟨i,hi,rfl⟩:=gL h2;obtain⟨j,hj,rfl⟩:=gL hc;rcases Nat.lt_trichotomy i j with h | h | h
   .have:=fD.1 E i j hi hj h u (h3 u hu)
    rw[hl u hu] at this;cases this
   .subst h;rfl
   .have:=fD.1 E j i hj hi h u (hl u hu)
    rw[h3 u hu] at this;cases this
  rw[this]
def orF(es:List Nat)(i:Nat):Nat:=(es.take i).foldl (fun a e=>a ||| e) 0
theorem C47{es:List Nat}{i e:Nat}(h:es[i]? = some e):orF es (i+1)=orF es i ||| e:=by
 unfold orF;rw[C7 h,List.foldl_append];rfl
theorem X37{es:List Nat}{w:Nat}:(orF es es.length).testBit w=true<->∃ e ∈ es,e.testBit w=true:=by
 have key:∀(l:List Nat) (a:Nat),(l.foldl (fun a e=>a ||| e) a).testBit w=true<->a.testBit w=true\/∃ e ∈ l,e.testBit w=true:=by
  intro l
  induction l with
  | nil=>intro a;simp
  | cons x l ih=>
   intro a;rw[dF,ih,aV,cO];simp only[aU,exists_eq_or_imp,or_assoc]
 unfold orF;rw[List.take_length,key];simp
theorem R58{es:List Nat}{N:Nat}(h:∀ e ∈ es,e<2^N):∀ i,i<=es.length->orF es i<2^N
 | 0,_=>aQ _
 | i+1,hi=>by
  rw[C47 (aE (show i<es.length by omega))];exact Z26 (R58 h i (by omega)) (h _ (List.getElem_mem _))
def wI(es:List Nat)(N f i:Nat):Rat:=((Z20 es N f).take i).foldl (fun w c=>gr w (M45 N (Y25 es (B2 es N) N c) c)) (fwI es N (B50 es N f (upK f (N-f))) f)
def N64(es:List Nat)(N f:Nat):Rat:=wI es N f (Z20 es N f).length
def R82(es:List Nat)(N f:Nat):List Int:=W85 es (B2 es N) N (N64 es N f) (Z20 es N f)
theorem R97{es:List Nat}{N f i c:Nat}(h:(Z20 es N f)[i]? = some c):wI es N f (i+1)=gr (wI es N f i) (M45 N (Y25 es (B2 es N) N c) c):=by
 unfold wI;rw[C7 h,List.foldl_append];rfl
theorem Q89{es nb:List Nat}{N c:Nat}(E:es.length<=8)(l:Nat):U15 (M45 N (Y25 es nb N c) l) 100000:=(K77 (Y75 _ (by omega)) (fun v l=>B65 es N _ E) l).1
theorem W95{es:List Nat}{N f:Nat}(hf:f<=N)(E:es.length<=8):∀ i,i<=(Z20 es N f).length->U15 (wI es N f i) 100000
 | 0,_=>N84 E f (by rw[U74];exact hf)
 | i+1,hi=>by
  rw[R97 (aE (show i<(Z20 es N f).length by omega))];exact E78 (W95 hf E i (by omega)) (Q89 E _)
def N110:Value := .agg ⟨[.bool false,.slice none 0 0,.slice none 0 0]⟩
theorem M96{N f cap:Nat}{A:Option Addr}{es:List Nat}{H:Y0}{nx:Nat}(hS:Sl H nx A (K12 es))(hN:N<=6)(hf:f<=N)(U:∀ e ∈ es,e<2^N)(ai:es.length<=8):
  Q2 Tryz.prog 16 [gv N A es.length cap,.int .i64 (f:Int)] H nx fun r H' nx'=>D0 H nx H' nx' /\
   ((orF es es.length≠2^N-1/\r = .tuple ⟨[.slice none 0 0,N110,.int .i64 9]⟩) \/
    (orF es es.length=2^N-1/\∃ B w,r = .tuple ⟨[.slice B (R82 es N f).length (R82 es N f).length,w,.int .i64 0]⟩/\Sl H' nx' B (U4 (R82 es N f))/\RR H' nx' w (N64 es N f))):=by
 have ek:2^N<=64:=aK (n:=2) (by omega) hN;have eu:0<2^N:=aQ N;have ee:2^f<=2^N:=aK (n:=2) (by omega) hf;have f4:0<2^f:=aQ f;have av:U14 es:=fun e he=>by have:=U e he;omega
 have dk:Q6 (N:Int) (f:Int) es=0:=by
  unfold Q6;rw[V11 (by omega) (by omega) fun i e he=>U e (aH he)];simp;omega
 have e3:N3 N es=0:=V11 (by omega) (by omega) fun i e he=>U e (aH he)
 have cg:∀ k:VP,U11 [.bool false,.slice none 0 0,.slice none 0 0] [(0,1),(1,1),(2,1)] [] k=k (.agg ⟨[.bool false,.slice none 0 0,.slice none 0 0]⟩):=fun k=>V14 _ _
 refine spec16 ?_;unfold F16;simp(config:={ maxSteps:=2000000 }) (disch:=first|omega|assumption)only[W0,Z0,Q0.val,C13];generalize hK:hs (hs H nx (some (.cells [.int .i64 N,.slice A es.length cap] 0))) (nx+1) (some (.cells [.bool false,.slice none 0 0,.slice none 0 0] 0))=K;have k2:J0 K nx=some (.cells [.int .i64 N,.slice A es.length cap] 0):=by rw[<- hK,Z1 _ (by omega),Z11]
 have k5:J0 K (nx+1)=some (.cells [.bool false,.slice none 0 0,.slice none 0 0] 0):=by rw[<- hK,Z11]
 have dc:D0 H nx K (nx+1+1):=by
  rw[<- hK];exact(((D0.refl H nx).new _ (by omega) (by omega):D0 H nx _ (nx+1)).new _ (by omega) (by omega))
 clear hK;refine R0 (U86 N f A es cap _ _ (hS.ext dc) av) ?_;rintro _ H3 ff ⟨rfl,b5⟩;have d1:decide (Q6 (N:Int) (f:Int) es≠0)=false:=by simp[dk]
 have g2:=(b5.get nx (by omega)).trans k2;have g5:=(b5.get (nx+1) (by omega)).trans k5;have el:=b5.le;have bk:=dc.trans b5;simp(config:={ maxSteps:=2000000 }) (disch:=first|omega|assumption)only[W0,d1,g2];refine R0 (C90 (n:=N) (by omega) _ _) ?_;rintro _ _ _ ⟨rfl,rfl,rfl⟩;refine R0 (C90 (n:=f) (by omega) _ _) ?_;rintro _ _ _ ⟨rfl,rfl,rfl⟩;have cy:2^N-1<4294967296:=by omega
 have ed:2^f-1<4294967296:=by omega
 have da:Z2 (2^N-1) (2^f-1)<4294967296:=U10 cy;simp(config:={ maxSteps:=2000000 }) (disch:=first|omega|assumption)only[W0,g2,C13];rw[show Z2 (2^N-1) (2^f-1)=bnd N f from rfl] at *
 refine R0 (V99 (hS.ext bk) hN U ai da) ?_;rintro _ H7 fa ⟨⟨B7,rfl,dl⟩,dx⟩;have f9:=K46 es (bnd N f);refine R0 (U41 dl hN (U67 U) (by omega)) ?_;rintro _ H8 c3 ⟨⟨B8,rfl,e8⟩,dh⟩;have a4:=dx.trans dh;have em:=a4.le;have e7:=(a4.get nx (by omega)).trans g2;have dv:=(a4.get (nx+1) (by omega)).trans g5;have d2:=bk.trans a4;obtain⟨cn,f7,fb⟩:=M56 (es:=D14 es (bnd N f)) hN;have ew:(D19 (D14 es (bnd N f)) N).length<=N:=E40 _ _ _ _;have c7:Z20 es N f=(D19 (D14 es (bnd N f)) N).filter fun c=>decide (c &&& bnd N f≠0):=rfl
 generalize D19 (D14 es (bnd N f)) N=cs at *
 simp(config:={ maxSteps:=2000000 }) (disch:=first|omega|assumption)only[W0];refine B1 (m:=cs.length) (fun m L H' nx'=>∃(i:Nat) (v:Value),m+i=cs.length/\L=[v,.int .i64 (i:Int)]/\Acc c3 H' nx' 1 v ((cs.take i).filter fun c=>decide (c &&& bnd N f≠0)).length (K12 ((cs.take i).filter fun c=>decide (c &&& bnd N f≠0)))/\D0 H8 c3 H' nx') ?_
  ⟨0,.slice none 0 0,by omega,rfl,Acc.nil _ _ _ _,D0.refl _ _⟩
 rintro m ih L H9 E ⟨i,v,hm,rfl,hA,a3⟩ bz;have ej:=a3.le
 by_cases hi:i<cs.length
 .have b3:(i:Int)<(cs.length:Int):=by omega
  obtain⟨c,hc⟩:∃ c,cs[i]? = some c:=⟨_,aE hi⟩
  obtain⟨B,o,row,rfl,cz,V,Z⟩:=(e8.ext a3).open (i:=i) (by rw[E1];omega);have q0:=Z _ _ (Q3 hc);obtain⟨cv,_,e9⟩:=cn c (aH hc);have cf:c<64:=by have:=e9.lt;omega
  have eo:c<4294967296:=by omega
  have en:E9 c<=6:=Q15 _ _;have W:(cs.take (i+1)).filter (fun c=>decide (c &&& bnd N f≠0))=(cs.take i).filter (fun c=>decide (c &&& bnd N f≠0))++(if c &&& bnd N f=0 then [] else [c]):=by
   rw[C7 hc,List.filter_append];congr 1
   by_cases h0:c &&& bnd N f=0<;>simp[h0]
  have fd:((cs.take i).filter fun c=>decide (c &&& bnd N f≠0)).length<=6:=by
   have:=List.length_filter_le (fun c=>decide (c &&& bnd N f≠0)) (cs.take i);rw[cK] at this;omega
  by_cases h0:c &&& bnd N f=0
  .rw[if_pos h0,List.append_nil] at W
   simp(config:={ maxSteps:=2000000 }) (disch:=first|omega|assumption)only[W0,b3,X3 V,q0,N13,h0];exact bz (m-1) _ _ _ (by omega) ⟨i+1,v,by omega,by simp,by rw[W];exact hA,a3⟩
  .rw[if_neg h0] at W
   have dn:¬ ((c &&& bnd N f:Nat):Int)=0:=by omega
   simp(config:={ maxSteps:=2000000 }) (disch:=first|omega|assumption)only[W0,b3,X3 V,q0,N13,dn];refine R0 (R44 cf _ _) ?_;rintro _ co au ⟨rfl,ap⟩;have dt:¬ (E9 c:Int) > 8:=by omega
   simp(config:={ maxSteps:=2000000 }) (disch:=first|omega|assumption)only[W0,dt,Y48];have ba:D0 co au (hs co au (some (.cells [.int .u32 (c:Int)] 0))) (au+1):=(D0.refl _ _).new _ (aD _) (by omega);have dy:=ap.le;refine Y20 (H0:=H8) (lo:=c3) (m:=1) (l:=[.int .u32 (c:Int)]) (by omega) ((hA.ext ap).ext ba) (J9 (Z11 _ _ _) rfl (by omega)) (by omega) rfl (by omega) (by omega) ((a3.trans ap).trans ba) (by omega) ?_;intro v' H' di du _;refine bz (m-1) _ _ _ (by omega) ⟨i+1,v',by omega,by simp,?_,du⟩;rw[W,Y22,bH];exact di
 have b3:¬ (i:Int)<(cs.length:Int):=by omega
 rw[D23 hi,<- c7] at hA;clear bz;obtain⟨CA,rfl,e5⟩:=hA.sl;have ag:=(a3.get nx (by omega)).trans e7;have c8:=(a3.get (nx+1) (by omega)).trans dv;have a2:=d2.trans a3;simp(config:={ maxSteps:=2000000 }) (disch:=first|omega|assumption)only[W0,b3,ag];have b8:=R58 U;refine B1 (m:=es.length) (fun m L H' nx'=>∃ i:Nat,m+i=es.length/\L=[.int .u32 (orF es i:Int),.int .i64 (i:Int)]/\H9=H'/\E=nx') ?_ ⟨0,by omega,rfl,rfl,rfl⟩;rintro m2 f0 L2 _ _ ⟨i2,fe,rfl,rfl,rfl⟩ bo
 by_cases dw:i2<es.length
 .have an:(i2:Int)<(es.length:Int):=by omega
  obtain⟨e,he⟩:∃ e,es[i2]? = some e:=⟨_,aE dw⟩
  obtain⟨B,o,row,rfl,cz,V,Z⟩:=(hS.ext a2).open (i:=i2) (by rw[E1];omega);have q0:=Z _ _ (Q3 he);have eh:=av.get he;have h1:=b8 i2 (by omega);have ec:orF es i2<4294967296:=by omega
  simp(config:={ maxSteps:=2000000 }) (disch:=first|omega|assumption)only[W0,an,X3 V,q0];exact bo (m2-1) _ _ _ (by omega) ⟨i2+1,by omega,by rw[C47 he];simp,rfl,rfl⟩
 have an:¬ (i2:Int)<(es.length:Int):=by omega
 obtain rfl:i2=es.length:=by omega
 clear bo;simp(config:={ maxSteps:=2000000 }) (disch:=first|omega|assumption)only[W0,an,ag];refine R0 (C90 (n:=N) (by omega) _ _) ?_;rintro _ _ _ ⟨rfl,rfl,rfl⟩;have et:=b8 es.length (aD _)
 by_cases bw:orF es es.length=2^N-1
 case neg=>
  have cq:¬ (orF es es.length:Int)=((2^N-1:Nat):Int):=by omega
  simp(config:={ maxSteps:=2000000 }) (disch:=first|omega|assumption)only[W0,Z0,Nat.reduceAdd,cq,ne_eq,not_false_eq_true,cg,c8,D7,Y12];exact⟨a2.hs (by omega),.inl ⟨bw,rfl⟩⟩
 have az:∀ w,w<N->∃ e ∈ es,e.testBit w=true:=fun w hw=>X37.1 (by rw[bw,dC];simpa using hw)
 simp(config:={ maxSteps:=2000000 }) (disch:=first|omega|assumption)only[W0,bw,ne_eq,not_true_eq_false,ag,C13];have cd:D0 H nx H9 (E+8):=a2.more (by omega);refine R0 (W106 (n:=N) (by omega) A es cap _ _ (hS.ext cd) U (by omega) e3) ?_;rintro _ dq a5 ⟨rfl,ae⟩;have e2:=ae.le;have cj:=(ae.get nx (by omega)).trans ag;have eg:=(ae.get (nx+1) (by omega)).trans c8;have d9:=N9 es N;simp(config:={ maxSteps:=2000000 }) (disch:=first|omega|assumption)only[W0,Z0,E66,R98 d9,cj,C13];have ct:Z0 (K12 (B2 es N)++[Value.map (some (E+3)),Value.map (some (E+4))])=true:=E83 0 none 0 0 _ _ _;refine(@if_pos _ _ ct _ _ _).mpr ?_;generalize a1:hs (hs (hs dq (E+6) (some (.cells (.int .i64 N :: .slice A es.length cap :: (K12 (B2 es N)++[.map (some (E+3)),.map (some (E+4))])) 0))) (E+4) (some (.map [] 0))) (E+3) (some (.map [] 0))=H22;have s6:J0 H22 (E+6)=some (.cells (E75 N A es.length cap (B2 es N) (E+3) (E+4)) 0):=by rw[<- a1,Z1 _ (by omega),Z1 _ (by omega),Z11];rfl
 have s4:J0 H22 (E+4)=some (.map [] 0):=by rw[<- a1,Z1 _ (by omega),Z11]
 have s3:J0 H22 (E+3)=some (.map [] 0):=by rw[<- a1,Z11]
 have Q:D0 H9 E H22 a5:=by
  rw[<- a1];exact((((D0.self (by omega):D0 H9 E H9 (E+8)).trans ae).hs (by omega)).hs (by omega)).hs (by omega)
 have ei:=(Q.get nx (by omega)).trans ag;have d5:=(Q.get (nx+1) (by omega)).trans c8;clear a1;have c4:SV H22 a5 (E+6) (E+3) (E+4) N A cap es (B2 es N) (D94 es N f):=
  ⟨s6,by omega,by omega,by omega,d9,(hS.ext a2).ext Q,⟨_,U29.nil s3,fun n v h=>by cases h⟩,⟨_,U29.nil s4,fun n v h=>by cases h⟩,by omega⟩
 have ay:∀ c ∈ Z20 es N f,c<2^N:=fun c hc=>by
  rw[c7] at hc;obtain⟨v,_,hI⟩:=cn c (dA.1 hc).1;exact hI.lt
 have d4:(Z20 es N f).length<=32:=by
  have:=List.length_filter_le (fun c=>decide (c &&& bnd N f≠0)) cs;rw[<- c7] at this;omega
 have hL:∀ c ∈ Z20 es N f,∀ l,l≠0->(∀ w,l.testBit w=true->c.testBit w=true)->D94 es N f l=M45 N (Y25 es (B2 es N) N c) l:=fun c hc l h0 hl=>J108 hN hc h0 hl
 have ck:=fun i hi=>W95 (es:=es) hf ai i hi
 have eb:wI es N f 0=fwI es N (B50 es N f (upK f (N-f))) f:=rfl;have dm:=fun i c h=>R97 (es:=es) (N:=N) (f:=f) (i:=i) (c:=c) h
 have bv:=e5.ext Q;have c6:=a2.trans Q;refine R0 (G95 c4 hN U ai az hf) ?_;rintro fc b4 J ⟨ac,bf,al⟩;rw[<- eb] at ac;obtain⟨aj,rfl,ab⟩:=ac.num;have e6:=al.le;have a9:D0 b4 J (hs (hs b4 J (some (.cells [.bool false,.slice none 0 0,.slice none 0 0] 0))) J (some (.cells aj 0))) (J+1):=((D0.refl _ _).new _ (aD _) (m:=J+1) (by omega)).hs (aD _);have e0:J0 (hs (hs b4 J (some (.cells [.bool false,.slice none 0 0,.slice none 0 0] 0))) J (some (.cells aj 0))) J=some (.cells aj 0):=Z11 _ _ _;simp(config:={ maxSteps:=2000000 }) (disch:=first|omega|assumption)only[W0,Nat.reduceAdd,ab.three,ab.one,G24 (show aj.length=[dU false,.slice none 0 0,.slice none 0 0].length from ab.three)];generalize hs (hs b4 J (some (.cells [.bool false,.slice none 0 0,.slice none 0 0] 0))) J (some (.cells aj 0))=H25 at *
 have df:=bf.ext a9;have dd:=al.trans a9.kp;have ce:=ac.ext a9;clear a9 bf al ac;have ca:=c4.ic;have bc:=c4.il;refine B1 (m:=(Z20 es N f).length) (fun m L' H' nx'=>∃(i:Nat) (c:List Value),m+i=(Z20 es N f).length/\L'=[.int .i64 (i:Int)]/\SV H' nx' (E+6) (E+3) (E+4) N A cap es (B2 es N) (D94 es N f)/\Kp H22 a5 (E+3) (E+4) H' nx'/\J+1<=nx'/\V7 c/\J0 H' J=some (.cells c 0)/\RR H' nx' (.agg ⟨c⟩) (wI es N f i)) ?_
  ⟨0,aj,by omega,rfl,df,dd,aD _,ab,e0,ce⟩
 rintro m3 ey L3 ao a0 ⟨i3,c,f5,rfl,cu,ak,dg,hc,ah,a6⟩ bh;have aq:=bv.kp ak ca bc
 by_cases dz:i3<(Z20 es N f).length
 .have aw:(i3:Int)<((Z20 es N f).length:Int):=by omega
  obtain⟨cc,bu⟩:∃ cc,(Z20 es N f)[i3]? = some cc:=⟨_,aE dz⟩
  obtain⟨B,o,row,rfl,cz,V,Z⟩:=aq.open (i:=i3) (by rw[E1];omega);have q0:=Z _ _ (Q3 bu);have bg:=aH bu;have d8:=ay cc bg;simp(config:={ maxSteps:=2000000 }) (disch:=first|omega|assumption)only[W0,aw,X3 V,q0,ah,X15 hc];have hX:D0 ao a0 ao (a0+7):=D0.self (by omega);have O:=cu.ext hX;refine R0 (V88 hN U ai N30 az d8 (hL cc bg) cc d8 (fun w hw=>hw) ao (a0+7) O) ?_;rintro f6 f8 ep ⟨d6,dp,ad⟩;have d3:=ad.cell O.ic O.il (by omega) ah;have dj:=ad.le;have ci:=(a6.ext hX).kp ad O.ic O.il;refine R0 (G82 ci d6 (ck i3 (by omega)) (Q89 ai _)) ?_;rintro ez f3 ef ⟨bt,a8⟩;obtain⟨d0,rfl,a7⟩:=bt.num;have bx:=(a8.get J (by omega)).trans d3;have de:=a8.le;simp(config:={ maxSteps:=2000000 }) (disch:=first|omega|assumption)only[W0,bx,d3,X15 hc,a7.three,a7.one,G24 (show d0.length=c.length by rw[a7.three,hc.three])];refine⟨by rw[hc.three];omega,bh (m3-1) _ _ _ (by omega) ⟨i3+1,d0,by omega,by simp,(dp.ext a8).boxs bx (V7.noU hc) (by omega),((ak.trans (hX.kp.trans ad)).trans a8.kp).hs (.inl (by omega)),by omega,a7,Z11 _ _ _,?_⟩⟩;rw[dm i3 cc bu];exact bt.boxs bx (W81 hc) (.inl rfl)
 have aw:¬ (i3:Int)<((Z20 es N f).length:Int):=by omega
 obtain rfl:i3=(Z20 es N f).length:=by omega
 clear bh;have hX:D0 ao a0 ao (a0+8):=D0.self (by omega);have O:=cu.ext hX;have hb:N64 es N f=wI es N f (Z20 es N f).length:=rfl;rw[<- hb] at a6;have dr:U15 (N64 es N f) 100000:=ck _ (aD _);simp(config:={ maxSteps:=2000000 }) (disch:=first|omega|assumption)only[W0,aw,ah,X15 hc];refine R0 (R103 O hN U ai N30 az (aq.ext hX) (a6.ext hX) dr d4 ay hL) ?_;rintro _ cx bd ⟨⟨e1,rfl,db⟩,aa⟩;have ea:=aa.le;have cp:=(a6.ext hX).kp aa O.ic O.il;have e4:=aa.cell O.ic O.il (by omega) ah;have c9:Kp H22 a5 (E+3) (E+4) cx bd:=ak.trans (hX.kp.trans aa);have ax:=c9.cell ca bc (by omega) d5;simp(config:={ maxSteps:=2000000 }) (disch:=first|omega|assumption)only[W0,Nat.reduceAdd,e4,X15 hc,ax,hc.three,hc.one,G24 (show c.length=[dU false,.slice none 0 0,.slice none 0 0].length from hc.three)];have d7:D0 H nx cx bd:=⟨by have:=c9.le;omega,fun q hq=>(c9.get q (by omega) (by omega) (by omega)).trans (c6.get q hq)⟩
 refine⟨d7.hs (by omega),.inr ⟨e1,_,rfl,?_,cp.boxs ax (U47 rfl) (.inl rfl)⟩⟩;refine db.write ax fun x hx hr => ?_
 obtain⟨y,_,rfl⟩:=gN.1 hx;simp at hr
end Go.Proofs.YtoiioigihocgbaaGreatDoor
namespace Go.Clo
def nbB(aL:List Nat)(u w:Nat):Bool:=(aL.getD u 0).testBit w
def W84(aL:List Nat)(N to within:Nat):Nat->Nat->Nat->Nat->Nat
 | 0,_,_,_=>0
 | k+1,seen,b,st=>if b=0 then 0 else if (Z2 (Q4 aL b N &&& within) (seen ||| b)).testBit to=true then st else W84 aL N to within k (seen ||| b) (Z2 (Q4 aL b N &&& within) (seen ||| b)) (st+1)
def B75(aL:List Nat)(N u w within:Nat):Nat:=W84 aL N w within N 0 (2^u) 1
theorem B102(aL:List Nat)(N to within E st:Nat):∀ k,W84 aL N to within k E 0 st=0
 | 0=>rfl
 | k+1=>if_pos rfl
def cyD(d l:Nat):Nat:=if 0<d/\(l=0\/d+2<l) then d+2 else l
def D86(aL:List Nat)(N v u w:Nat):Nat:=(Z2 (Z2 (2^N-1) (aL.getD v 0)) (2^v) ||| 2^u) ||| 2^w
def cyW(aL:List Nat)(N v u l:Nat):Nat->Nat
 | 0=>l
 | w+1=>if (nbB aL v u&&nbB aL v w && !nbB aL u w)=true then cyD (B75 aL N u w (D86 aL N v u w)) (cyW aL N v u l w) else cyW aL N v u l w
def cyU(aL:List Nat)(N v l:Nat):Nat->Nat
 | 0=>l
 | u+1=>cyW aL N v u (cyU aL N v l u) u
def cyV(aL:List Nat)(N:Nat):Nat->Nat
 | 0=>0
 | v+1=>cyU aL N v (cyV aL N v) N
def Q90(start:Nat):Nat:=4294967295-(2^(start+1)-1)
def W87(aL:List Nat)(blk last:Nat):Nat:=(blk ||| aL.getD last 0) ||| 2^last
def Z91(aL:List Nat)(N k blk start last v:Nat):Bool:=
 (Z2 (aL.getD last 0 &&& Q90 start) blk).testBit v&&decide (B75 aL N v start ((Z2 (Q90 start) (W87 aL blk last) ||| 2^v) ||| 2^start)=k)
def exF(aL:List Nat)(N start:Nat):Nat->Nat->List Nat->Nat->List Nat
 | 0,_,p,_=>p
 | k+1,last,p,blk=>match (aY N).find? (Z91 aL N (k+1) blk start last) with
  | none=>[]
  | some v=>exF aL N start k v (p++[v]) (W87 aL blk last)
def scW(aL:List Nat)(N L s:Nat):Nat->List Nat
 | 0=>[]
 | j+1=>if scW aL N L s j=[]/\s<j/\nbB aL s j=true then exF aL N s (L-2) j [s,j] 0 else scW aL N L s j
def scV(aL:List Nat)(N L:Nat):Nat->List Nat
 | 0=>[]
 | s+1=>if scV aL N L s=[] then scW aL N L s N else scV aL N L s
def scF(aL:List Nat)(N:Nat):List Nat:=if cyV aL N N=0 then [] else scV aL N (cyV aL N N) N
def X78(cl rest:Nat)(s:Nat × Bool)(e:Nat):Nat × Bool:=if Z2 cl e=0/\(s.2=false\/E9 (Z2 rest e)<E9 s.1) then(Z2 rest e,true) else s
def C75(es:List Nat)(cl rest:Nat):Nat × Bool:=es.foldl (X78 cl rest) (0,false)
def X74(cl rest:Nat)(s:Nat × Nat)(e:Nat):Nat × Nat:=if Z2 cl e=0/\Z2 rest e &&& s.2=0 then(s.1+1,s.2 ||| Z2 rest e) else s
def C82(es:List Nat)(cl rest:Nat):Nat × Nat:=es.foldl (X74 cl rest) (0,0)
def N71(rest out:Nat):Nat->Nat
 | 0=>rest
 | v+1=>if out.testBit v=true then Z2 (N71 rest out v) (2^v) else N71 rest out v
def W51(es aL:List Nat)(N:Nat):Nat->Nat->Nat->Bool
 | 0,cl,rest => !(C75 es cl rest).2
 | c+1,cl,rest => !(C75 es cl rest).2 || (decide ((C75 es cl rest).1≠0)&&decide ((C82 es cl rest).1<=c+1) &&
   (aY N).any fun v=>(C75 es cl rest).1.testBit v&&W51 es aL N c (cl ||| 2^v) (N71 rest (C75 es cl rest).1 (v+1) &&& aL.getD v 0))
def B86(P:Nat->Bool):Nat->Nat->Nat
 | 0,L=>L
 | k+1,L=>if P L=true then L else B86 P k (L+1)
def W99(es aL:List Nat)(N L v:Nat)(s:List Nat × Nat × Nat):List Nat × Nat × Nat:=
 if s.2.2.testBit v=true then
  if s.1.length<L/\W51 es aL N (L-s.1.length-1) (s.2.1 ||| 2^v) (Z2 s.2.2 (2^v) &&& aL.getD v 0)=true then(s.1++[v],s.2.1 ||| 2^v,Z2 s.2.2 (2^v) &&& aL.getD v 0)
  else(s.1,s.2.1,Z2 s.2.2 (2^v))
 else s
def W76(es aL:List Nat)(N L lk:Nat):Nat->List Nat × Nat × Nat
 | 0=>([],0,lk)
 | v+1=>W99 es aL N L v (W76 es aL N L lk v)
def D83(es aL:List Nat)(N most:Nat):List Nat:=
 if Z7 es=0\/most<B86 (fun L=>W51 es aL N L 0 (Z7 es)) (most-2) 3 then [] else(W76 es aL N (B86 (fun L=>W51 es aL N L 0 (Z7 es)) (most-2) 3) (Z7 es) N).1
def X83:List Nat->List Nat->Int
 | [],[]=>0
 | [],_ :: _ => -1
 | _ :: _,[]=>1
 | a :: l,b :: m=>if a<b then -1 else if b<a then 1 else X83 l m
def X90(cy cq:List Nat):List Nat:=if cq=[] then cy else if cy=[]\/cq.length<cy.length\/X83 cq cy<0 then cq else cy
def Z74(es aL:List Nat)(N:Nat):List Nat:=X90 (scF aL N) (D83 es aL N (if scF aL N=[] then N else(scF aL N).length))
theorem M94{cl rest:Nat}:∀(es:List Nat) (s:Nat × Nat),(0<s.1\/(s.2=0/\∃ e ∈ es,Z2 cl e=0))->0<(es.foldl (X74 cl rest) s).1
 | [],s,h=>by
  rcases h with h | ⟨_,e,he,_⟩
  .exact h
  .simp at he
 | x :: es,s,h=>by
  rw[dF];refine M94 es _ ?_;rcases h with h | ⟨h0,e,he,h1⟩
  .left
   unfold X74
   split
   .show 0<s.1+1
    omega
   .exact h
  .unfold X74
   split
   .left
    show 0<s.1+1;omega
   .rename_i hn
    right;refine⟨h0,e,?_,h1⟩;rcases aU.1 he with h2 | h2
    .exfalso
     subst h2;refine hn ⟨h1,?_⟩;rw[h0,Nat.and_zero]
    .exact h2
theorem D93{cl rest:Nat}:∀(es:List Nat) (s:Nat × Bool),(es.foldl (X78 cl rest) s).2=true->s.2=true\/∃ e ∈ es,Z2 cl e=0
 | [],s,h => .inl h
 | x :: es,s,h=>by
  rw[dF] at h;rcases D93 es _ h with h1 | ⟨e,h1,h2⟩
  .unfold X78 at h1
   split at h1
   .rename_i h3
    exact .inr ⟨x,by simp,h3.1⟩
   .exact .inl h1
  .exact .inr ⟨e,by simp[h1],h2⟩
theorem Z107{es:List Nat}{cl rest:Nat}(h:(C75 es cl rest).2=true):0<(C82 es cl rest).1:=by
 rcases D93 es _ h with h1 | h1
 .cases h1
 .exact M94 es _ (.inr ⟨rfl,h1⟩)
theorem X91{N cl rest:Nat}(hr:rest<2^N):∀(es:List Nat) (s:Nat × Bool),s.1<2^N->(es.foldl (X78 cl rest) s).1<2^N
 | [],s,h=>h
 | x :: es,s,h=>by
  rw[dF];refine X91 hr es _ ?_;unfold X78
  split
  .exact Z6 hr
  .exact h
theorem E98{N cl rest:Nat}(hr:rest<2^N):∀(es:List Nat) (s:Nat × Nat),s.2<2^N->(es.foldl (X74 cl rest) s).2<2^N
 | [],s,h=>h
 | x :: es,s,h=>by
  rw[dF];refine E98 hr es _ ?_;unfold X74
  split
  .exact Z26 h (Z6 hr)
  .exact h
theorem V98{cl rest:Nat}:∀(es:List Nat) (s:Nat × Nat),(es.foldl (X74 cl rest) s).1<=s.1+es.length
 | [],s=>by simp
 | x :: es,s=>by
  rw[dF];have:=V98 (cl:=cl) (rest:=rest) es (X74 cl rest s x);have h2:(X74 cl rest s x).1<=s.1+1:=by
   unfold X74
   split
   .exact aD _
   .omega
  rw[cV];omega
theorem D85{N rest out:Nat}(hr:rest<2^N):∀ v,N71 rest out v<2^N
 | 0=>hr
 | v+1=>by
  unfold N71
  split
  .exact Z6 (D85 hr v)
  .exact D85 hr v
theorem W37 {a b N:Nat} (h:a<2^N):a &&& b<2^N:=Nat.lt_of_le_of_lt Nat.and_le_left h
end Go.Clo
namespace Go.Proofs.YtoiioigihocgbaaGreatDoor
open Go.Clo
section
variable (a0 a1 a2 a3 a4 a5:Value) (H:Y0) (nx:Nat) (k:EP)
def F65:Prop:=
 M12 a1 H nx fun b c d=>
 M2 (d+4) fun d=>
 D10 .shl u1 a2 fun e=>
 wK True (
 G3 (fun c d e f=>
 D10 .neq d.b u0 fun g=>
 K2 g (
 D10 .or d.a d.b fun g=>
 G3 (fun e f h i=>
 D10 .lss f.b a0 fun j=>
 K2 j (
 V4 (fun c=>
 D10 .shr d.b f.b fun d=>
 D10 .and d u1 fun d=>
 D10 .eql d u1 fun d=>
 K2 d (
 M3 b f.b (some 32) 1 fun b=>
 J1 b none h fun b=>
 D10 .or f.a b fun b=>
 c [b] h i) (
 c [f.a] h i)) (fun b c d=>
 D10 .add f.b i1 fun f=>
 e [b.a,f] c d)) (
 D10 .and f.a a4 fun b=>
 D10 .andNot b g fun b=>
 D10 .shr b a3 fun e=>
 D10 .and e u1 fun e=>
 D10 .eql e u1 fun e=>
 K2 e (
 Rt d.c h i k) (
 D10 .add d.c i1 fun d=>
 c [g,b,d] h i))) [u0,i0] e f) (
 Rt i0 e f k)) [u0,e,i1] c d)
def F63:Prop:=
 M12 a1 H nx fun b c d=>
 G3 (fun c d e f=>
 D10 .lss d.b a0 fun g=>
 K2 g (
 G3 (fun e f g h=>
 D10 .lss f.b a0 fun i=>
 K2 i (
 G3 (fun c g h i=>
 D10 .lss g.b f.b fun j=>
 K2 j (
 V4 (fun c=>
 V4 (fun c=>
 M3 b d.b (some 32) 1 fun e=>
 J1 e none h fun e=>
 D10 .shr e f.b fun e=>
 D10 .and e u1 fun e=>
 D10 .eql e u0 fun e=>
 K3 false e (
 M3 b d.b (some 32) 1 fun d=>
 J1 d none h fun d=>
 D10 .shr d g.b fun d=>
 D10 .and d u1 fun d=>
 D10 .eql d u0 fun d=>
 K3 false d (
 M3 b f.b (some 32) 1 fun b=>
 J1 b none h fun b=>
 D10 .shr b g.b fun b=>
 D10 .and b u1 fun b=>
 D10 .eql b u1 fun b=>
 c [b] h i) (
 c [bT] h i)) (
 c [bT] h i)) (fun e h i=>
 K2 e.a (
 c [g.a] h i) (
 M2 (i+16) fun e=>
 Y2 Tryz.prog 61 [a0] h e fun e i j=>
 M3 b d.b (some 32) 1 fun l=>
 J1 l none i fun m=>
 D10 .andNot e m fun e=>
 D10 .shl u1 d.b fun d=>
 D10 .andNot e d fun d=>
 D10 .shl u1 f.b fun e=>
 D10 .or d e fun d=>
 D10 .shl u1 g.b fun e=>
 D10 .or d e fun d=>
 wK (tB ((cE l none i m)/\(tB (cE l none h m)))) (
 J1 b (some 32) i fun b=>
 Y2 Tryz.prog 65 [a0,b,f.b,g.b,d] i j fun b d e=>
 V4 (fun c=>
 D10 .gtr b i0 fun f=>
 K3 true f (
 D10 .eql g.a i0 fun f=>
 K3 false f (
 D10 .add b (.int .i64 2) fun b=>
 D10 .lss b g.a fun b=>
 c [b] d e) (
 c [bT] d e)) (
 c [bF] d e)) (fun d e f=>
 K2 d.a (
 D10 .add b (.int .i64 2) fun b=>
 c [b] e f) (
 c [g.a] e f)))))) (fun b d e=>
 D10 .add g.b i1 fun f=>
 c [b.a,f] d e)) (
 D10 .add f.b i1 fun b=>
 e [g.a,b] h i)) [f.a,i0] g h) (
 D10 .add d.b i1 fun b=>
 c [f.a,b] g h)) [d.a,i0] e f) (
 Rt d.a e f k)) [i0,i0] c d
def F64:Prop:=
 R4 a0 0 H fun b=>
 J1 a2 none H fun c=>
 D10 .eql b c fun b=>
 K2 b (
 Rt a0 H nx k) (
 M2 (nx+11) fun b=>
 U6 a0 i0 H fun c d=>
 R4 a0 0 H fun e=>
 D10 .sub e i1 fun f=>
 U6 a0 f H fun f g=>
 wK ((tB (cE f none H g))/\((tB (R4 a0 0 H fun b=>b=e))/\(tB (tB (cE c none H d))))) (
 D10 .add d i1 fun c=>
 Y2 Tryz.prog 61 [c] H b fun b c e=>
 wUn .xor b fun b=>
 M2 (e+9) fun e=>
 M3 a3 g (some 32) 1 fun f=>
 J1 f none c fun h=>
 D10 .or a1 h fun i=>
 D10 .shl u1 g fun j=>
 D10 .or i j fun i=>
 wK (tB (tB (cE f none c h))) (
 J1 a4 none c fun f=>
 G3 (fun c e h j=>
 D10 .lss e.a f fun f=>
 K2 f (
 V4 (fun c=>
 M3 a3 g (some 32) 1 fun f=>
 J1 f none h fun f=>
 D10 .and f b fun f=>
 D10 .andNot f a1 fun f=>
 D10 .shr f e.a fun f=>
 D10 .and f u1 fun f=>
 D10 .eql f u0 fun f=>
 K2 f (
 c [] h j) (
 M2 (j+10) fun f=>
 D10 .andNot b i fun b=>
 D10 .shl u1 e.a fun g=>
 D10 .or b g fun b=>
 D10 .shl u1 d fun g=>
 D10 .or b g fun b=>
 wK True (
 M2 (f+11) fun f=>
 J1 a4 none h fun g=>
 J1 a3 (some 32) h fun j=>
 Y2 Tryz.prog 65 [g,j,e.a,d,b] h f fun b d f=>
 J1 a2 none d fun l=>
 R4 a0 0 d fun m=>
 D10 .sub l m fun n=>
 D10 .eql b n fun b=>
 wK (((R4 a0 0 d fun b=>b=m)/\(tB (R4 a0 0 h fun b=>b=m)))/\(((cE a2 none d l)/\(tB (cE a2 none h l)))/\((tA (tB (cE a3 (some 32) h j)))/\(tB (tA (tB (cE a4 none h g))))))) (
 K2 b (
 M2 (f+8) fun b=>
 J1 a5 none d fun c=>
 K6 1 1 [.int .i64 0] [(0,e.a)] fun e=>wNm f 3 (.slice 1 1) fun g=>
 E6 d (f+3) (some (.cells e 0)) fun e=>B5 a0 g 1 8 e b fun b e f=>
 M33 Tryz.prog c [b,i] e f fun b f g=>
 wK (tB (tA ((cE a5 none e c)/\(tB (cE a5 none d c))))) (
 Rt b f g k)) (
 c [] d f))))) (fun _ b d=>
 D10 .add e.a i1 fun e=>
 c [e] b d)) (
 Rt (.slice none 0 0) h j k)) [i0] c e)))
def F30:Prop:=
 M12 a0 H nx fun b c d=>
 M12 a1 c d fun c d e=>
 J1 b none d fun f=>
 J1 c (some 32) d fun g=>
 Y2 Tryz.prog 63 [f,g] d e fun d e f=>
 wAl [.int .i64 0] e f fun e f g=>
 D5 e d 1 f fun d=>
 J1 e none d fun f=>
 D10 .eql f i0 fun f=>
 K2 f (
 Rt (.slice none 0 0) d g k) (
 wAl [.nilFunc] d g fun d f g=>
 D5 d (.func (.func 64) ⟨[]⟩ ⟨[e,c,b,d]⟩) 1 f fun e=>
 J1 b none e fun f=>
 G3 (fun e g h i=>
 D10 .lss g.a f fun f=>
 K2 f (
 J1 b none h fun b=>
 G3 (fun f h i j=>
 D10 .lss h.a b fun b=>
 K2 b (
 V4 (fun b=>
 V4 (fun b=>
 D10 .gtr h.a g.a fun d=>
 K3 true d (
 M3 c g.a (some 32) 1 fun c=>
 J1 c none i fun c=>
 D10 .shr c h.a fun c=>
 D10 .and c u1 fun c=>
 D10 .eql c u1 fun c=>
 b [c] i j) (
 b [bF] i j)) (fun c e f=>
 K2 c.a (
 J1 d none e fun c=>
 D24 2 1 [.int .i64 0] [(0,g.a),(1,h.a)] e f fun d e f=>
 M33 Tryz.prog c [d,u0] e f fun c d e=>
 D9 (.eqn true (.slice 3)) [c,(.slice none 0 0)] fun f=>
 K2 f (
 Rt c d e k) (
 b [] d e)) (
 b [] e f))) (fun _ b c=>
 D10 .add h.a i1 fun d=>
 f [d] b c)) (
 D10 .add g.a i1 fun b=>
 e [b] i j)) [i0] h i) (
 Rt (.slice none 0 0) h i k)) [i0] e g)
def F91:Prop:=
 Y2 Tryz.prog 44 [a0] H nx fun b c d=>
 Rt b c d k
def F67:Prop:=
 M12 a0 H nx fun b c d=>
 wFl b 1 c fun _ b=>
 R4 b 0 c fun e=>
 G3 (fun c d f g=>
 D10 .lss d.c e fun e=>
 K2 e (
 V4 (fun c=>
 U6 b d.c f fun _ b=>
 V4 (fun c=>
 D10 .andNot a1 b fun e=>
 D10 .eql e u0 fun e=>
 K3 true e (
 wUn .not d.b fun e=>
 K3 false e (
 D10 .andNot a2 b fun b=>
 Y2 Tryz.prog 91 [b] f g fun b e f=>
 Y2 Tryz.prog 91 [d.a] e f fun d e f=>
 D10 .lss b d fun b=>
 c [b] e f) (
 c [bT] f g)) (
 c [bF] f g)) (fun e f g=>
 K2 e.a (
 D10 .andNot a2 b fun b=>
 c [b,bT] f g) (
 c [d.a,d.b] f g))) (fun b e f=>
 D10 .add d.c i1 fun d=>
 c [b.a,b.b,d] e f)) (
 Rt (.tuple ⟨[d.a,d.b]⟩) f g k)) [u0,bF,i0] c d
def F68:Prop:=
 M12 a0 H nx fun b c d=>
 wFl b 1 c fun _ b=>
 R4 b 0 c fun e=>
 G3 (fun c d f g=>
 D10 .lss d.c e fun e=>
 K2 e (
 V4 (fun c=>
 U6 b d.c f fun _ b=>
 V4 (fun c=>
 D10 .andNot a1 b fun e=>
 D10 .eql e u0 fun e=>
 K3 true e (
 D10 .andNot a2 b fun b=>
 D10 .and b d.b fun b=>
 D10 .eql b u0 fun b=>
 c [b] f g) (
 c [bF] f g)) (fun e f g=>
 K2 e.a (
 D10 .add d.a i1 fun e=>
 D10 .andNot a2 b fun b=>
 D10 .or d.b b fun b=>
 c [e,b] f g) (
 c [d.a,d.b] f g))) (fun b e f=>
 D10 .add d.c i1 fun d=>
 c [b.a,b.b,d] e f)) (
 Rt d.a f g k)) [i0,u0,i0] c d
def F66:Prop:=
 J1 a3 (some 2) H fun b=>
 Y2 Tryz.prog 67 [b,a0,a1] H nx fun b c d=>
 G9 b 0 fun e=>
 G9 b 1 fun b=>
 wUn .not b fun b=>
 K2 b (
 Rt bT c d k) (
 V4 (fun b=>
 D10 .eql e u0 fun e=>
 K3 false e (
 J1 a3 (some 2) c fun e=>
 Y2 Tryz.prog 68 [e,a0,a1] c d fun c d e=>
 D10 .gtr c a2 fun c=>
 b [c] d e) (
 b [bT] c d)) (fun b c d=>
 K2 b.a (
 Rt bF c d k) (
 wFl a3 0 c fun _ b=>
 G3 (fun c d f g=>
 D10 .lss d.b b fun b=>
 K2 b (
 V4 (fun b=>
 D10 .shr e d.b fun c=>
 D10 .and c u1 fun c=>
 D10 .eql c u0 fun c=>
 K2 c (
 b [d.a] f g) (
 D10 .shl u1 d.b fun c=>
 D10 .andNot d.a c fun c=>
 M2 (g+13) fun e=>
 J1 a4 none f fun g=>
 D10 .shl u1 d.b fun h=>
 D10 .or a0 h fun h=>
 M3 a5 d.b (some 32) 1 fun d=>
 J1 d none f fun i=>
 D10 .and c i fun j=>
 D10 .sub a2 i1 fun l=>
 M33 Tryz.prog g [h,j,l] f e fun e h j=>
 wK ((tA (tB (cE d none f i)))/\(tB (tA (tB (cE a4 none f g))))) (
 K2 e (
 Rt bT h j k) (
 b [c] h j)))) (fun b e f=>
 D10 .add d.b i1 fun d=>
 c [b.a,d] e f)) (
 Rt bF f g k)) [a1,i0] c d)))
def F31:Prop:=
 M12 a0 H nx fun b c d=>
 M12 a1 c d fun c d e=>
 wFl b 1 d fun _ f=>
 R4 f 0 d fun g=>
 G3 (fun d e h i=>
 D10 .lss e.b g fun g=>
 K2 g (
 U6 f e.b h fun _ b=>
 D10 .or e.a b fun b=>
 D10 .add e.b i1 fun c=>
 d [b,c] h i) (
 D10 .eql e.a u0 fun d=>
 K2 d (
 Rt (.slice none 0 0) h i k) (
 wAl [.nilFunc] h i fun d f g=>
 D5 d (.func (.func 66) ⟨[]⟩ ⟨[b,d,c]⟩) 1 f fun f=>
 G3 (fun f g h i=>
 V4 (fun b=>
 D10 .leq g.a a2 fun c=>
 K3 true c (
 J1 d none h fun c=>
 M33 Tryz.prog c [u0,e.a,g.a] h i fun c d e=>
 wUn .not c fun c=>
 b [c] d e) (
 b [bF] h i)) (fun h i j=>
 K2 h.a (
 D10 .add g.a i1 fun b=>
 f [b] i j) (
 D10 .gtr g.a a2 fun f=>
 K2 f (
 Rt (.slice none 0 0) i j k) (
 wFl b 0 i fun _ b=>
 G3 (fun e f h i=>
 D10 .lss f.d b fun b=>
 K2 b (
 V4 (fun b=>
 D10 .shr f.c f.d fun e=>
 D10 .and e u1 fun e=>
 D10 .eql e u0 fun e=>
 K2 e (
 b [f.a,f.b,f.c] h i) (
 D10 .shl u1 f.d fun e=>
 D10 .andNot f.c e fun e=>
 V4 (fun b=>
 M2 (i+22) fun i=>
 R4 f.a 0 h fun j=>
 D10 .lss j g.a fun l=>
 K3 true l (
 J1 d none h fun l=>
 D10 .shl u1 f.d fun m=>
 D10 .or f.b m fun m=>
 M3 c f.d (some 32) 1 fun c=>
 J1 c none h fun n=>
 D10 .and e n fun e=>
 R4 f.a 0 h fun o=>
 D10 .sub g.a o fun g=>
 D10 .sub g i1 fun g=>
 M33 Tryz.prog l [m,e,g] h i fun e g i=>
 wK ((tA (tB (R4 f.a 0 h fun b=>b=o)))/\((tA (tB (cE c none h n)))/\((tA (tB (cE d none h l)))/\(tB (tA (tB (R4 f.a 0 h fun b=>b=j))))))) (
 b [e] g i)) (
 wK (tB (tB (R4 f.a 0 h fun b=>b=j))) (
 b [bF] h i))) (fun d g h=>
 K2 d.a (
 D24 1 1 [.int .i64 0] [(0,f.d)] g h fun d g h=>
 B5 f.a d 1 8 g h fun d g h=>
 D10 .shl u1 f.d fun i=>
 D10 .or f.b i fun i=>
 M3 c f.d (some 32) 1 fun c=>
 J1 c none g fun c=>
 D10 .and e c fun c=>
 b [d,i,c] g h) (
 b [f.a,f.b,e] g h)))) (fun b c d=>
 D10 .add f.d i1 fun f=>
 e [b.a,b.b,b.c,f] c d)) (
 Rt f.a h i k)) [(.slice none 0 0),u0,e.a,i0] i j)))) [(.int .i64 3)] f g))) [u0,i0] d e
def F32:Prop:=
 R4 a0 0 H fun b=>
 G3 (fun c d e f=>
 D10 .lss d.a b fun b=>
 K2 b (
 U6 a0 d.a e fun _ b=>
 R4 a1 0 e fun g=>
 D10 .geq d.a g fun g=>
 K2 g (
 Rt i1 e f k) (
 U6 a1 d.a e fun _ g=>
 Y2 Tryz.prog 69 [b,g] e f fun b e f=>
 D10 .neq b i0 fun g=>
 K2 g (
 Rt b e f k) (
 D10 .add d.a i1 fun b=>
 c [b] e f))) (
 R4 a0 0 e fun b=>
 R4 a1 0 e fun c=>
 D10 .lss b c fun b=>
 K2 b (
 Rt (.int .i64 (-1)) e f k) (
 Rt i0 e f k))) [i0] H nx
def F12:Prop:=
 M12 a0 H nx fun b c d=>
 J1 b (some 2) c fun e=>
 Y2 Tryz.prog 27 [e] c d fun c d e=>
 D10 .neq c i0 fun c=>
 K2 c (
 Rt (.tuple ⟨[(.slice none 0 0),bF]⟩) d e k) (
 J1 b (some 2) d fun c=>
 Y2 Tryz.prog 29 [c] d e fun c d e=>
 wAl z32 d e fun d e f=>
 D5 d c 32 e fun c=>
 wFl b 0 c fun _ e=>
 J1 d (some 32) c fun g=>
 Y2 Tryz.prog 30 [e,g] c f fun c e f=>
 R4 c 0 e fun g=>
 V4 (fun c=>
 D10 .eql g i0 fun d=>
 K2 d (
 wFl b 0 e fun _ b=>
 c [b] e f) (
 c [g] e f)) (fun e f g=>
 J1 b (some 2) f fun b=>
 J1 d (some 32) f fun d=>
 Y2 Tryz.prog 31 [b,d,e.a] f g fun b d e=>
 R4 b 0 d fun f=>
 D10 .eql f i0 fun f=>
 K2 f (
 R4 c 0 d fun b=>
 D10 .gtr b i0 fun b=>
 Rt (.tuple ⟨[c,b]⟩) d e k) (
 V4 (fun f=>
 R4 c 0 d fun g=>
 D10 .eql g i0 fun g=>
 K3 false g (
 R4 b 0 d fun g=>
 R4 c 0 d fun h=>
 D10 .lss g h fun g=>
 K3 false g (
 Y2 Tryz.prog 32 [b,c] d e fun b c d=>
 D10 .lss b i0 fun b=>
 f [b] c d) (
 f [bT] d e)) (
 f [bT] d e)) (fun d e f=>
 K2 d.a (
 Rt (.tuple ⟨[b,bT]⟩) e f k) (
 Rt (.tuple ⟨[c,bT]⟩) e f k)))))
variable {a0 a1 a2 a3 a4 a5 H nx k}
theorem spec65:F65 a0 a1 a2 a3 a4 H nx k->Q2 Tryz.prog 65 [a0,a1,a2,a3,a4] H nx k:=Q12 [(13,[14])] [[11,12,13],[14,26]] []
theorem spec63:F63 a0 a1 H nx k->Q2 Tryz.prog 63 [a0,a1] H nx k:=Q12 [(16,[5]),(19,[47]),(22,[80])] [[5,12],[5,16],[5,20]] [.one (.tst (.one (.tst (.one .nil) (.one .nil))) (.one (.one (.one .nil)))),.one (.tst (.tst (.one (.one .nil)) (.one (.one .nil))) (.one (.one (.one .nil))))]
theorem spec64:F64 a0 a1 a2 a3 a4 a5 H nx k->Q2 Tryz.prog 64 [a0,a1,a2,a3,a4,a5] H nx k:=Q12 [(11,[])] [[42]] []
theorem spec30:F30 a0 a1 H nx k->Q2 Tryz.prog 30 [a0,a1] H nx k:=Q12 [(16,[]),(18,[35])] [[17],[21]] [.one (.tst (.one .nil) (.one .nil))]
theorem spec91:F91 a0 H nx k->Q2 Tryz.prog 91 [a0] H nx k:=Q12 [] [] []
theorem spec67:F67 a0 a1 a2 H nx k->Q2 Tryz.prog 67 [a0,a1,a2] H nx k:=Q12 [(6,[8,9]),(8,[35])] [[8,9,15]] [.one (.tst (.tst (.one (.one .nil)) (.one (.one .nil))) (.one (.one (.one .nil))))]
theorem spec68:F68 a0 a1 a2 H nx k->Q2 Tryz.prog 68 [a0,a1,a2] H nx k:=Q12 [(6,[7,8]),(8,[29])] [[7,8,14]] [.one (.tst (.one .nil) (.one .nil))]
theorem spec66:F66 a0 a1 a2 a3 a4 a5 H nx k->Q2 Tryz.prog 66 [a0,a1,a2,a3,a4,a5] H nx k:=Q12 [(6,[31]),(12,[1])] [[1,34]] [.one (.tst (.one .nil) (.one .nil))]
theorem spec31:F31 a0 a1 a2 H nx k->Q2 Tryz.prog 31 [a0,a1,a2] H nx k:=Q12 [(16,[39]),(26,[12,13,14]),(31,[81])] [[7,19],[11],[12,13,14,48]] [.one (.tst (.one .nil) (.one .nil)),.one (.tst (.one .nil) (.one .nil))]
theorem spec32:F32 a0 a1 H nx k->Q2 Tryz.prog 32 [a0,a1] H nx k:=Q12 [] [[11]] []
theorem spec12:F12 a0 H nx k->Q2 Tryz.prog 12 [a0] H nx k:=Q12 [(7,[6]),(13,[35])] [] [.one (.tst (.one (.tst (.one .nil) (.one .nil))) (.one (.one (.one .nil))))]
end
theorem C59{n:Nat}(hn:n<=32)(H:Y0)(nx:Nat):Q2 Tryz.prog 35 [.int .i64 (n:Int)] H nx (Z56 (.int .u32 ((2^n-1:Nat):Int)) H nx):=by
 refine spec35 ?_;unfold F35;simp only[W1,M26 hn,Y5];exact⟨rfl,rfl,rfl⟩
theorem G56(N free:Int)(A:Option Addr)(es:List Nat)(cap:Nat)(H:Y0)(nx:Nat)(hS:Sl H nx A (K12 es))(J:U14 es):
  Q2 Tryz.prog 33 [gv N A es.length cap,.int .i64 free] H nx fun v H' nx'=>v = .int .i64 (Q6 N free es)/\D0 H nx H' nx':=by
 refine spec33 ?_;unfold F33;have hE:D0 H nx (hs H nx (some (.cells [.int .i64 N,.slice A es.length cap] 0))) (nx+1):=(D0.refl H nx).new _ (aD _) (by omega);simp(disch:=first|omega|assumption)only[W0,Z0,Q0.val,C13];refine R0 (N11 N A es cap _ _ (hS.ext hE) J) ?_;rintro _ H2 nx2 ⟨rfl,E⟩;have hg:=E.get nx (by omega);rw[Z11] at hg;simp(disch:=first|omega|assumption)only[W0,hg,N13]
 by_cases h0:N3 N es=0
 .by_cases h1:free<0
  .simp(disch:=first|omega|assumption)only[W0,h0,h1,ne_eq,not_true_eq_false]
   exact⟨by simp[Q6,h0,h1],hE.trans E⟩
  .by_cases h2:N<free
   .simp(disch:=first|omega|assumption)only[W0,h0,h1,h2,ne_eq,not_true_eq_false]
    exact⟨by simp[Q6,h0,h2],hE.trans E⟩
   .simp(disch:=first|omega|assumption)only[W0,h0,h1,h2,ne_eq,not_true_eq_false]
    exact⟨by simp[Q6,h0,h1,h2],hE.trans E⟩
 .simp(disch:=first|omega|assumption)only[W0,h0,ne_eq,not_false_eq_true]
  exact⟨by simp[Q6,h0],hE.trans E⟩
theorem Z71{n:Nat}(hn:n<=32)(A:Option Addr)(es:List Nat)(cap:Nat)(H:Y0)(nx:Nat)(hS:Sl H nx A (K12 es))(a0:∀ e ∈ es,e<2^n)(a1:es.length<=64)(a6:N3 n es=0):
  Q2 Tryz.prog 34 [gv n A es.length cap] H nx fun r H' nx'=>r = .agg ⟨K12 (B2 es n)⟩/\D0 H nx H' nx':=by
 refine spec34 ?_;unfold F34;simp(disch:=first|omega|assumption)only[W0,Z0,Q0.val,Q27];generalize hK:hs (hs (hs H nx (some (.cells [.int .i64 n,.slice A es.length cap] 0))) (nx+1) (some (.cells (K12 (aF 32 0)) 0))) (nx+1+1) (some (.cells (K12 (aF 32 0)) 0))=K;have kG:J0 K nx=some (.cells [.int .i64 n,.slice A es.length cap] 0):=by rw[<- hK,Z1 _ (by omega),Z1 _ (by omega),Z11]
 have kR:J0 K (nx+1)=some (.cells (K12 (aF 32 0)) 0):=by rw[<- hK,Z1 _ (by omega),Z11]
 have kA:J0 K (nx+1+1)=some (.cells (K12 (aF 32 0)) 0):=by rw[<- hK,Z11]
 have a5:D0 H nx K (nx+3):=by
  rw[<- hK];exact((((D0.refl H nx).new _ (by omega) (by omega):D0 H nx _ (nx+1)).new _ (by omega) (by omega):D0 H nx _ (nx+1+1)).new _ (by omega) (by omega))
 refine B1 (m:=n) (fun m L H' nx'=>∃(i:Nat) (l:List Nat),m+i=n/\L=[.int .i64 (i:Int)]/\l.length=32/\(∀ v,v<32->l[v]? = some (if v<i then Q1 (adj es v) n else 0)) /\
  J0 H' (nx+1+1)=some (.cells (K12 l) 0)/\D0 K (nx+2) H' nx'/\nx+3<=nx') ?_ ⟨0,aF 32 0,rfl,rfl,by simp,fun v hv=>by rw[List.getElem?_replicate,if_pos hv];simp,kA,D0.self (by omega),aD _⟩
 rintro m ih L H2 nx2 ⟨i,l,hm,rfl,hl,J,hg,E,a9⟩ a7;have g2:=(E.get nx (by omega)).trans kG;have r2:=(E.get (nx+1) (by omega)).trans kR;have O:D0 H nx H2 nx2:=⟨by omega,fun q hq=>(E.get q (by omega)).trans (a5.get q hq)⟩
 simp(disch:=first|omega|assumption)only[W0]
 by_cases hi:i<n
 case neg=>
  have U:¬ (i:Int)<(n:Int):=by omega
  have a2:i=n:=by omega
  subst a2;have a3:l=B2 es i:=by
   refine G32 hl (N9 es i) fun v hv => ?_
   rw[J v hv];simp[B2,hv]
  subst a3;have e1:(K12 (B2 es i)).length=32:=by rw[E1];exact hl
  have e2:(K12 (aF 32 0)).length=32:=by rw[E1];simp
  have e3:=G24 (c:=K12 (aF 32 0)) (vs:=K12 (B2 es i)) (by rw[e1,e2]);have e4:=W5 (B2 es i);simp(disch:=first|omega|assumption)only[W0,U,hg,Z34 hl,e1,e2,e4,r2,e3];exact O.hs (by omega)
 have U:(i:Int)<(n:Int):=by omega
 simp(disch:=first|omega|assumption)only[W0,U,g2,C13];refine R0 (U61 hn hi A es cap _ _ (hS.ext O) a0 a1 a6) ?_;rintro _ H3 ab ⟨rfl,Q⟩;have a8:=(Q.get (nx+1+1) (by omega)).trans hg;have aa:=Q.le;have a4:i<l.length:=by omega
 have V:(K12 l).length=32:=by rw[E1];exact hl
 simp(disch:=first|omega|assumption)only[W0,Nat.reduceLeDiff,a8,V10 a4,V];refine⟨by omega,a7 (m-1) _ _ _ (by omega) ⟨i+1,l.set i (Q1 (adj es i) n),by omega,by simp,by rw[dO];exact hl,fun v hv => ?_,by rw[Z11],((E.trans (Q.less (by omega))).hs (by omega)),by omega⟩⟩;rw[cQ]
 by_cases Z:i=v
 .subst Z;rw[if_pos rfl,if_pos (by omega),if_pos (by omega)]
 .rw[if_neg Z,J v hv]
  by_cases W:v<i
  .rw[if_pos W,if_pos (by omega)]
  .rw[if_neg W,if_neg (by omega)]
section
variable {u w:Nat}
theorem M18{l:List Value}(h:l.length=32)(k:VP):B10 l 0 (some 32) k=k (.agg ⟨l⟩):=by
 have:=K26 (l:=l) k;rwa [h] at this
structure NbL (aL:List Nat) (N:Nat):Prop where
 len:aL.length=32
 lt:∀(u x:Nat),aL[u]? = some x->x<2^N
theorem NbL.at{aL:List Nat}{N:Nat}(h:NbL aL N)(hu:u<32):∃ x,aL[u]? = some x/\x<2^N/\aL.getD u 0=x:=by
 obtain⟨x,hx⟩:∃ x,aL[u]? = some x:=⟨aL[u]'(by rw[h.len];exact hu),aE _⟩
 exact⟨x,hx,h.lt u x hx,by simp[aP,hx]⟩
section
variable {aL:List Nat} {N:Nat} (hN:N<=6) (hL:NbL aL N)
include hN hL
theorem B83 {u w within:Nat} (hu:u<N) (hw:w<N) (hwi:within<4294967296) (H:Y0) (nx:Nat):
  Q2 Tryz.prog 65 [.int .i64 (N:Int),.agg ⟨K12 aL⟩,.int .i64 (u:Int),.int .i64 (w:Int),.int .u32 (within:Int)] H nx fun r H' nx'=>r = .int .i64 (B75 aL N u w within:Int)/\D0 H nx H' nx':=by
 have hp64:2^N<=64:=Nat.pow_le_pow_right (n:=2) (by omega) hN
 have hp1:0<2^N:=Nat.two_pow_pos N
 have hu32:u<32:=by omega
 have hw32:w<32:=by omega
 refine spec65 ?_
 unfold F65
 have hE1:D0 H nx (hs H nx (some (.cells (K12 aL) 0))) (nx+1):=(D0.refl H nx).new _ (Nat.le_refl _) (by omega)
 have g1:J0 (hs H nx (some (.cells (K12 aL) 0))) nx=some (.cells (K12 aL) 0):=Z11 _ _ _
 simp (disch:=first|omega|assumption|exact G0 (by assumption)|exact U10 (by assumption)|exact X0 (by omega)|fail) only[W0,Q0.val,W5 aL]
 generalize hs H nx (some (.cells (K12 aL) 0))=H1 at *
 refine B1 (m:=N) (fun f L H' nx'=>∃ (c b st:Nat),L=[.int .u32 (c:Int),.int .u32 (b:Int),.int .i64 (st:Int)]/\c<2^N/\b<2^N/\N<=f+(V5 N c).length/\(∀ w,b.testBit w=true->c.testBit w=false)/\W84 aL N w within f c b st=B75 aL N u w within/\f+st=N+1/\H1=H'/\nx+1<=nx') ?_
  ⟨0,2^u,1,rfl,hp1,R27 hu,by omega,by simp,rfl,rfl,rfl,by omega⟩
 rintro f ih L _ n2 ⟨c,b,st,rfl,hc,hb,hf,hd,hcb,hst,rfl,hn2⟩ hih
 have hc32:c<4294967296:=by omega
 have hb32:b<4294967296:=by omega
 have hfin:D0 H nx H1 n2:=hE1.more hn2
 by_cases hb0:b=0
 .subst hb0
  rw[B102] at hcb
  simp (disch:=first|omega|assumption|exact G0 (by assumption)|exact U10 (by assumption)|exact X0 (by omega)|fail) only[W0,ne_eq,not_true_eq_false]
  exact⟨by rw[<- hcb];rfl,hfin⟩
 have hb0':¬ (b:Int)=0:=by omega
 obtain⟨f',rfl⟩:∃ f',f=f'+1:=by
  cases f with
  | zero=>exact absurd (X20 hb hd (by have:=Q15 N c;omega)) hb0
  | succ f=>exact⟨f,rfl⟩
 have hg:=R25 hb hb0 hd
 have hcb32:c ||| b<2^N:=Z26 hc hb
 rw[show W84 aL N w within (f'+1) c b st=if b=0 then 0 else if (Z2 (Q4 aL b N &&& within) (c ||| b)).testBit w=true then st else W84 aL N w within f' (c ||| b) (Z2 (Q4 aL b N &&& within) (c ||| b)) (st+1) from rfl,if_neg hb0] at hcb
 simp (disch:=first|omega|assumption|exact G0 (by assumption)|exact U10 (by assumption)|exact X0 (by omega)|fail) only[W0,ne_eq,hb0',not_false_eq_true]
 refine B1 (m:=N) (fun q L H' nx'=>∃ (j:Nat),q+j=N/\L=[.int .u32 (Q4 aL b j:Int),.int .i64 (j:Int)]/\H1=H'/\n2=nx') ?_ ⟨0,by omega,rfl,rfl,rfl⟩
 rintro q ih7 L _ _ ⟨j,hq,rfl,rfl,rfl⟩ hih7
 have hnl:=Z14 (b:=b) hL.lt
 by_cases hj:j<N
 case neg=>
  obtain rfl:j=N:=by omega
  have hj':¬ (j:Int)<(j:Int):=by omega
  have hnj:=hnl j
  have hx32:Q4 aL b j<4294967296:=by omega
  have hy32:c ||| b<4294967296:=by omega
  have hz32:Q4 aL b j &&& within<4294967296:=D52 hx32
  have hnd:=Z6 (n:=j) (b:=c ||| b) (W37 (b:=within) hnj)
  have hnd32:Z2 (Q4 aL b j &&& within) (c ||| b)<4294967296:=by omega
  by_cases hbit:(Z2 (Q4 aL b j &&& within) (c ||| b)).testBit w=true
  .rw[if_pos hbit] at hcb
   simp (disch:=first|omega|assumption|exact G0 (by assumption)|exact U10 (by assumption)|exact X0 (by omega)|fail) only[W0,hj',hbit]
   exact⟨by rw[hcb],hfin⟩
  .rw[if_neg hbit] at hcb
   have hbit':=Bool.eq_false_iff.2 hbit
   simp (disch:=first|omega|assumption|exact G0 (by assumption)|exact U10 (by assumption)|exact X0 (by omega)|fail) only[W0,hj',hbit']
   refine hih f' _ _ _ (by omega) ⟨c ||| b,_,st+1,rfl,hcb32,hnd,by omega,fun w hw => ?_,hcb,by omega,rfl,hn2⟩
   rw[N1,Bool.and_eq_true] at hw
   simpa using hw.2
 have hj':(j:Int)<(N:Int):=by omega
 obtain⟨x,hx,hx2,hxD⟩:=hL.at (u:=j) (by omega)
 have hx32:x<4294967296:=by omega
 have hnj:=hnl j
 have hn32:Q4 aL b j<4294967296:=by omega
 have gx:=Q3 hx
 have hstep:Q4 aL b (j+1)=if b.testBit j=true then Q4 aL b j ||| aL.getD j 0 else Q4 aL b j:=rfl
 rw[hxD] at hstep
 have hj32:j<32:=by omega
 cases hbj:b.testBit j with
 | false=>
  rw[hbj,if_neg (by simp)] at hstep
  simp (disch:=first|omega|assumption|exact G0 (by assumption)|exact U10 (by assumption)|exact X0 (by omega)|fail) only[W0,hj',N13,hbj]
  exact hih7 (q-1) _ _ _ (by omega) ⟨j+1,by omega,by rw[hstep];try simp,rfl,rfl⟩
 | true=>
  rw[hbj,if_pos rfl] at hstep
  simp (disch:=first|omega|assumption|exact G0 (by assumption)|exact U10 (by assumption)|exact X0 (by omega)|fail) only[W0,hj',N13,hbj,g1,gx]
  exact hih7 (q-1) _ _ _ (by omega) ⟨j+1,by omega,by rw[hstep];try simp,rfl,rfl⟩
theorem E97{to within:Nat}:∀(k E b st:Nat),W84 aL N to within k E b st<=st+k
 | 0,_,_,_=>Nat.zero_le _
 | k+1,E,b,st=>by
  unfold W84
  split
  .exact Nat.zero_le _
  .split
   .omega
   .have:=E97 (to:=to) (within:=within) k (E ||| b) (Z2 (Q4 aL b N &&& within) (E ||| b)) (st+1)
    omega
theorem D81{within:Nat}:B75 aL N u w within<=7:=by
 have:=E97 hN hL (to:=w) (within:=within) N 0 (2^u) 1;unfold B75;omega
theorem M44:(K12 aL).length=32:=by rw[E1];exact hL.len
theorem G107{v:Nat}(hu:u<N)(hw:w<N):D86 aL N v u w<2^N:=by
 have E:0<2^N:=aQ N;exact Z26 (Z26 (Z6 (Z6 (by omega))) (R27 hu)) (R27 hw)
theorem D89 (H:Y0) (nx:Nat):Q2 Tryz.prog 63 [.int .i64 (N:Int),.agg ⟨K12 aL⟩] H nx fun r H' nx'=>r = .int .i64 (cyV aL N N:Int)/\D0 H nx H' nx':=by
 have hp64:2^N<=64:=Nat.pow_le_pow_right (n:=2) (by omega) hN
 have hp1:0<2^N:=Nat.two_pow_pos N
 have h32:=M44 hN hL
 refine spec63 ?_
 unfold F63
 have hE1:D0 H nx (hs H nx (some (.cells (K12 aL) 0))) (nx+1):=(D0.refl H nx).new _ (Nat.le_refl _) (by omega)
 have g1:J0 (hs H nx (some (.cells (K12 aL) 0))) nx=some (.cells (K12 aL) 0):=Z11 _ _ _
 simp (disch:=first|omega|assumption|exact G0 (by assumption)|exact U10 (by assumption)|exact X0 (by omega)|fail) only[W0,Q0.val,W5 aL]
 generalize hs H nx (some (.cells (K12 aL) 0))=H1 at *
 refine B1 (m:=N) (fun m L H' nx'=>∃ v:Nat,m+v=N/\L=[.int .i64 (cyV aL N v:Int),.int .i64 (v:Int)]/\D0 H1 (nx+1) H' nx') ?_ ⟨0,by omega,rfl,D0.refl _ _⟩
 rintro m ih L H2 n2 ⟨v,hm,rfl,e2⟩ hih
 by_cases hv:v<N
 case neg=>
  obtain rfl:v=N:=by omega
  have hv':¬ (v:Int)<(v:Int):=by omega
  simp (disch:=first|omega|assumption|exact G0 (by assumption)|exact U10 (by assumption)|exact X0 (by omega)|fail) only[W0,hv']
  exact hE1.trans e2
 have hv':(v:Int)<(N:Int):=by omega
 simp (disch:=first|omega|assumption|exact G0 (by assumption)|exact U10 (by assumption)|exact X0 (by omega)|fail) only[W0,hv']
 refine B1 (m:=N) (fun m L H' nx'=>∃ u:Nat,m+u=N/\L=[.int .i64 (cyU aL N v (cyV aL N v) u:Int),.int .i64 (u:Int)]/\D0 H1 (nx+1) H' nx') ?_ ⟨0,by omega,rfl,e2⟩
 rintro m3 ih3 L H3 n3 ⟨u,hm3,rfl,e3⟩ hih3
 by_cases hu:u<N
 case neg=>
  obtain rfl:u=N:=by omega
  have hu':¬ (u:Int)<(u:Int):=by omega
  simp (disch:=first|omega|assumption|exact G0 (by assumption)|exact U10 (by assumption)|exact X0 (by omega)|fail) only[W0,hu']
  exact hih (m-1) _ _ _ (by omega) ⟨v+1,by omega,rfl,e3⟩
 have hu':(u:Int)<(N:Int):=by omega
 simp (disch:=first|omega|assumption|exact G0 (by assumption)|exact U10 (by assumption)|exact X0 (by omega)|fail) only[W0,hu']
 refine B1 (m:=u) (fun m L H' nx'=>∃ w:Nat,m+w=u/\L=[.int .i64 (cyW aL N v u (cyU aL N v (cyV aL N v) u) w:Int),.int .i64 (w:Int)]/\D0 H1 (nx+1) H' nx') ?_ ⟨0,by omega,rfl,e3⟩
 rintro m4 ih4 L H4 n4 ⟨w,hm4,rfl,e4⟩ hih4
 by_cases hw:w<u
 case neg=>
  obtain rfl:w=u:=by omega
  have hw':¬ (w:Int)<(w:Int):=by omega
  simp (disch:=first|omega|assumption|exact G0 (by assumption)|exact U10 (by assumption)|exact X0 (by omega)|fail) only[W0,hw']
  exact hih3 (m3-1) _ _ _ (by omega) ⟨w+1,by omega,rfl,e4⟩
 have hw':(w:Int)<(u:Int):=by omega
 have g4:=(e4.get nx (by omega)).trans g1
 obtain⟨xv,gv',xv2,xvD⟩:=hL.at (u:=v) (by omega)
 obtain⟨xu,gu',xu2,xuD⟩:=hL.at (u:=u) (by omega)
 have gv':=Q3 gv'
 have gu':=Q3 gu'
 have xv32:xv<4294967296:=by omega
 have xu32:xu<4294967296:=by omega
 have v32:v<32:=by omega
 have u32:u<32:=by omega
 have w32:w<32:=by omega
 generalize hl:cyW aL N v u (cyU aL N v (cyV aL N v) u) w=l at *
 have next:cyW aL N v u (cyU aL N v (cyV aL N v) u) (w+1)=if (nbB aL v u&&nbB aL v w && !nbB aL u w)=true then cyD (B75 aL N u w (D86 aL N v u w)) l else l:=by rw[cyW,hl]
 have bvu:nbB aL v u=xv.testBit u:=by unfold nbB;rw[xvD]
 have bvw:nbB aL v w=xv.testBit w:=by unfold nbB;rw[xvD]
 have buw:nbB aL u w=xu.testBit w:=by unfold nbB;rw[xuD]
 rw[bvu,bvw,buw] at next
 simp (disch:=first|omega|assumption|exact G0 (by assumption)|exact U10 (by assumption)|exact X0 (by omega)|fail) only[W0,hw']
 rw[N13]
 refine N5 (fun L H' nx'=>L=[.bool (!(xv.testBit u&&xv.testBit w && !xu.testBit w))]/\H4=H'/\n4=nx') ?_ ?_
 .intro j hj
  cases b1:xv.testBit u with
  | false=>
   simp (disch:=first|omega|assumption|exact G0 (by assumption)|exact U10 (by assumption)|exact X0 (by omega)|fail) only[W0,g4,gv',b1]
   exact hj _ _ _ ⟨by simp[b1],rfl,rfl⟩
  | true=>
   cases b2:xv.testBit w with
   | false=>
    simp (disch:=first|omega|assumption|exact G0 (by assumption)|exact U10 (by assumption)|exact X0 (by omega)|fail) only[W0,g4,gv',b1,b2]
    exact hj _ _ _ ⟨by simp[b1,b2],rfl,rfl⟩
   | true=>
    simp (disch:=first|omega|assumption|exact G0 (by assumption)|exact U10 (by assumption)|exact X0 (by omega)|fail) only[W0,g4,gv',gu',b1,b2]
    exact hj _ _ _ ⟨by simp[b1,b2],rfl,rfl⟩
 rintro L _ _ ⟨rfl,rfl,rfl⟩
 by_cases hb:(xv.testBit u&&xv.testBit w && !xu.testBit w)=true
 case neg=>
  rw[if_neg hb] at next
  rw[Bool.eq_false_iff.2 hb]
  simp (disch:=first|omega|assumption|exact G0 (by assumption)|exact U10 (by assumption)|exact X0 (by omega)|fail) only[W0]
  exact hih4 (m4-1) _ _ _ (by omega) ⟨w+1,by omega,by rw[next];simp,e4⟩
 rw[if_pos hb] at next
 rw[hb]
 simp (disch:=first|omega|assumption|exact G0 (by assumption)|exact U10 (by assumption)|exact X0 (by omega)|fail) only[W0]
 refine R0 (C51 (n:=N) (by omega) _ _) ?_
 rintro _ _ _ ⟨rfl,rfl,rfl⟩
 have a1:2^N-1<4294967296:=by omega
 have a2:Z2 (2^N-1) xv<2^N:=Z6 (by omega)
 have a3:Z2 (Z2 (2^N-1) xv) (2^v)<2^N:=Z6 a2
 have a4:Z2 (Z2 (2^N-1) xv) (2^v) ||| 2^u<2^N:=Z26 a3 (R27 hu)
 have a5:=G107 hN hL (v:=v) hu (show w<N by omega)
 have b2':Z2 (2^N-1) xv<4294967296:=by omega
 have b3':Z2 (Z2 (2^N-1) xv) (2^v)<4294967296:=by omega
 have b4':Z2 (Z2 (2^N-1) xv) (2^v) ||| 2^u<4294967296:=by omega
 have pv:2^v<4294967296:=by have:=R27 hv;omega
 have pu:2^u<4294967296:=by have:=R27 hu;omega
 have pw:2^w<4294967296:=by have:=R27 (show w<N by omega);omega
 simp (disch:=first|omega|assumption|exact G0 (by assumption)|exact U10 (by assumption)|exact X0 (by omega)|fail) only[W0,g4,gv',M18 h32]
 have hal:D86 aL N v u w=(Z2 (Z2 (2^N-1) xv) (2^v) ||| 2^u) ||| 2^w:=by unfold D86;rw[xvD]
 rw[<- hal]
 refine R0 (B83 hN hL hu (by omega) (by omega) _ _) ?_
 rintro _ H5 n5 ⟨rfl,h5⟩
 have e5:=(e4.more (show n4<=n4+16 by omega)).trans h5
 have hd7:=D81 hN hL (u:=u) (w:=w) (within:=D86 aL N v u w)
 generalize B75 aL N u w (D86 aL N v u w)=d at *
 have c0:decide ((d:Int) > 0)=decide (0<d):=by congr 1;apply propext;omega
 have c1:decide ((l:Int)=0)=decide (l=0):=by congr 1;apply propext;omega
 have c2:decide ((d:Int)+2<(l:Int))=decide (d+2<l):=by congr 1;apply propext;omega
 refine N5 (fun L H' nx'=>L=[.bool (decide (0<d/\(l=0\/d+2<l)))]/\H5=H'/\n5=nx') ?_ ?_
 .intro j hj
  by_cases q0:0<d
  .by_cases q1:l=0
   .simp (disch:=first|omega|assumption|exact G0 (by assumption)|exact U10 (by assumption)|exact X0 (by omega)|fail) only[W0,c0,decide_eq_true q0,decide_eq_true q1]
    exact hj _ _ _ ⟨by simp[q0,q1],rfl,rfl⟩
   .simp (disch:=first|omega|assumption|exact G0 (by assumption)|exact U10 (by assumption)|exact X0 (by omega)|fail) only[W0,c0,c2,decide_eq_true q0,decide_eq_false q1]
    exact hj _ _ _ ⟨by simp[q0,q1],rfl,rfl⟩
  .simp (disch:=first|omega|assumption|exact G0 (by assumption)|exact U10 (by assumption)|exact X0 (by omega)|fail) only[W0,c0,decide_eq_false q0]
   exact hj _ _ _ ⟨by simp[q0],rfl,rfl⟩
 rintro L _ _ ⟨rfl,rfl,rfl⟩
 by_cases q:0<d/\(l=0\/d+2<l)
 .have e:cyD d l=d+2:=if_pos q
  simp (disch:=first|omega|assumption|exact G0 (by assumption)|exact U10 (by assumption)|exact X0 (by omega)|fail) only[W0,decide_eq_true q]
  exact hih4 (m4-1) _ _ _ (by omega) ⟨w+1,by omega,by rw[next,e];simp,e5⟩
 .have e:cyD d l=l:=if_neg q
  simp (disch:=first|omega|assumption|exact G0 (by assumption)|exact U10 (by assumption)|exact X0 (by omega)|fail) only[W0,decide_eq_false q]
  exact hih4 (m4-1) _ _ _ (by omega) ⟨w+1,by omega,by rw[next,e];simp,e5⟩
end
end
end Go.Proofs.YtoiioigihocgbaaGreatDoor
namespace Go.Clo
theorem Q64 {H:Y0} {nx b s bytes:Nat} {c:List Value} {x y:Value} {k:EP} (hg:J0 H b=some (.cells c s)) (hs:s=0\/s=1) (hc:0<c.length) (hx:Src H 1 x 1 [y]) (ho:Z0 [y]=true) (hb:bytes<=16) (hlen:c.length<=1000000)
  (hk:∀ H',J0 H' nx=some (.cells (c++[y]) 1)->(∀ i,i≠nx->i≠b->J0 H' i=J0 H i)->k (.slice (some ⟨nx,0,none⟩) (c.length+1) (c.length+1)) H' (nx+1)):B5 (.slice (some ⟨b,0,none⟩) c.length c.length) x 1 bytes H nx k:=by
 have hb1:(2*(c.length+1)+1000)*bytes<=281474976710656:=by
  have:=Nat.mul_le_mul (show 2*(c.length+1)+1000<=2*1000001+1000 by omega) hb
  omega
 have hl:(c++[y]).length=(c.length+1)*1:=by simp
 unfold B5 Z22
 rw[hx.len]
 dsimp only
 rw[G1,V6 hb1,V6 (show c.length+1<=1000000000 by omega)]
 simp only[Bool.and_self,cond_true]
 rw[hx.first,ho,E27 (show c.length<c.length+1 by omega)]
 simp only[cond_true,cond_false]
 have hold:∀ k:List Value->Prop,Z5 H 1 c.length (.slice (some ⟨b,0,none⟩) c.length c.length) False k=k c:=(J9 hg (by omega) (by omega)).first
 rw[hold,V14,hl,D13]
 simp only[cond_true,D22]
 rw[Y4,hg]
 simp only[Option.elim_some]
 rcases hs with rfl | rfl
 .have hls:N8 (.cells c 0) 0 c.length 1=some false:=rfl
  rw[hls]
  dsimp only
  simp only[K11]
  rw[G1,G1,G4]
  exact hk _ (Z11 _ _ _) fun i hi _=>Z1 _ hi
 .have hls:N8 (.cells c 1) 0 c.length 1=some true:=by
   simp only[N8]
   rw[K43 (show (1:Nat)≠0 by omega),D13]
   simp only[cond_false,cond_true]
   rw[Nat.zero_add,Nat.mul_one,D13]
  rw[hls]
  dsimp only
  rw[G4]
  simp only[K11]
  rw[G1,G1,G4]
  exact hk _ (Z11 _ _ _) fun i hi hne=>by rw[Z1 _ hi,Z1 _ hne]
theorem K103{x:Nat}(h:x<4294967296)(k:VP):wUn .xor (.int .u32 (x:Int)) k=k (.int .u32 ((4294967295-x:Nat):Int)):=by
 have e:unV .xor (.int .u32 (x:Int))=some (.int .u32 (eW.wrap (((cT 32 4294967295 ^^^ cT 32 (x:Int)).toNat:Nat):Int))):=rfl;have e1:cT 32 4294967295=BitVec.allOnes 32:=by decide
 have e3:(cT 32 4294967295 ^^^ cT 32 (x:Int)).toNat=4294967295-x:=by
  rw[e1,<- BitVec.not_def,BitVec.toNat_not,W10,eP];omega
 unfold wUn;rw[e,e3,D15 (by omega),J8];rfl
theorem J55{p:Nat->Bool}{N v:Nat}(h:∀ u,u<v->p u=false)(hv:v<N)(hp:p v=true):(aY N).find? p=some v:=by
 rw[List.find?_eq_some_iff_getElem];refine⟨hp,v,by simpa using hv,by simp,fun j hj => ?_⟩;simp[h j hj]
theorem D58{p:Nat->Bool}{N:Nat}(h:∀ u,u<N->p u=false):(aY N).find? p=none:=by
 rw[List.find?_eq_none];intro x hx;rw[h x (by simpa using hx)];simp
structure KB (b:Nat) (H:Y0) (nx:Nat) (H':Y0) (nx':Nat):Prop where
 le:nx<=nx'
 get:∀ i,i<nx->i≠b->J0 H' i=J0 H i
theorem KB.of{b:Nat}{H:Y0}{nx:Nat}{H':Y0}{nx':Nat}(h:D0 H nx H' nx'):KB b H nx H' nx':=⟨h.le,fun i hi _=>h.get i hi⟩
def LsR(l:List Nat)(v:Value)(H:Y0)(nx:Nat):Prop:=∃ A,v = .slice A l.length l.length/\(A=none<->l=[])/\Sl H nx A (U4 (l.map fun(x:Nat)=>(x:Int)))
theorem C66(H:Y0)(nx:Nat):LsR [] (.slice none 0 0) H nx:=⟨none,rfl,by simp,Sl.nil _ _ _⟩
end Go.Clo
namespace Go.Proofs.YtoiioigihocgbaaGreatDoor
open Go.Clo
structure ExE (aL:List Nat) (N L q8 q4 q2 q12:Nat) (H:Y0) (m:Nat):Prop where
 g8:J0 H q8=some (.cells [.int .i64 (L:Int)] 0)
 g4:J0 H q4=some (.cells (K12 aL) 0)
 g2:J0 H q2=some (.cells [.int .i64 (N:Int)] 0)
 g12:J0 H q12=some (.cells [.func (.func 64) ⟨[]⟩ ⟨[.pointer (some ⟨q8,0,none⟩),.pointer (some ⟨q4,0,none⟩),.pointer (some ⟨q2,0,none⟩),.pointer (some ⟨q12,0,none⟩)]⟩] 0)
 l8:q8<m
 l4:q4<m
 l2:q2<m
 l12:q12<m
theorem ExE.step{aL:List Nat}{N L q8 q4 q2 q12:Nat}{H:Y0}{m:Nat}(h:ExE aL N L q8 q4 q2 q12 H m){H':Y0}{m':Nat}(hm:m<=m')(e:∀ i,i=q8\/i=q4\/i=q2\/i=q12->J0 H' i=J0 H i):ExE aL N L q8 q4 q2 q12 H' m':=by
 have a1:=h.l8;have a2:=h.l4;have a3:=h.l2;have a4:=h.l12;exact⟨(e _ (.inl rfl)).trans h.g8,(e _ (.inr (.inl rfl))).trans h.g4,(e _ (.inr (.inr (.inl rfl)))).trans h.g2,(e _ (.inr (.inr (.inr rfl)))).trans h.g12,by omega,by omega,by omega,by omega⟩
theorem ExE.ext{aL:List Nat}{N L q8 q4 q2 q12:Nat}{H:Y0}{m:Nat}(h:ExE aL N L q8 q4 q2 q12 H m){H':Y0}{m':Nat}(e:D0 H m H' m'):ExE aL N L q8 q4 q2 q12 H' m':=by
 have a1:=h.l8;have a2:=h.l4;have a3:=h.l2;have a4:=h.l12;exact h.step e.le fun i hi=>e.get i (by omega)
section
variable {aL:List Nat} {N:Nat} (hN:N<=6) (hL:NbL aL N)
include hN hL
theorem Z99 {L q8 q4 q2 q12 start:Nat} (hs:start<N) (hLb:L<=9):∀ (k:Nat) (last:Nat) (p:List Nat) (blk b s:Nat) (H:Y0) (m:Nat),ExE aL N L q8 q4 q2 q12 H m->J0 H b=some (.cells (U4 (p.map fun (x:Nat)=>(x:Int))) s)->(s=0\/s=1)->b<m ->
  b≠q8/\b≠q4/\b≠q2/\b≠q12->p.length+k=L->p[0]? = some start->p[p.length-1]? = some last->last<N->blk<2^N ->
  Q2 Tryz.prog 64 [.slice (some ⟨b,0,none⟩) p.length p.length,.int .u32 (blk:Int),.pointer (some ⟨q8,0,none⟩),.pointer (some ⟨q4,0,none⟩),.pointer (some ⟨q2,0,none⟩),.pointer (some ⟨q12,0,none⟩)] H m
   fun r H' m'=>LsR (exF aL N start k last p blk) r H' m'/\KB b H m H' m':=by
 have hp64:2^N<=64:=Nat.pow_le_pow_right (n:=2) (by omega) hN
 have hp1:0<2^N:=Nat.two_pow_pos N
 have h32:=M44 hN hL
 intro k
 induction k with
 | zero=>
  intro last p blk b s H m hE hg hs' hbm hbq hpk h0 hla hlN hblk
  have hlen:(U4 (p.map fun (x:Nat)=>(x:Int))).length=p.length:=by rw[X9,List.length_map]
  have hp0:0<p.length:=(List.getElem?_eq_some_iff.1 h0).1
  have d1:decide ((p.length:Int)=(L:Int))=true:=by simp;omega
  refine spec64 ?_
  unfold F64
  simp (disch:=first|omega|assumption|exact G0 (by assumption)|exact U10 (by assumption)|exact X0 (by omega)|fail) only[W0,Q0.val,hE.g8,d1]
  refine⟨⟨_,rfl,⟨fun h=>(by cases h),fun h => ?_⟩,fun i u hu=>⟨b,0,_,rfl,hbm,by rw[Q5,hg];rfl,by rw[Nat.zero_add];exact hu⟩⟩,KB.of (D0.refl _ _)⟩
  rw[show exF aL N start 0 last p blk=p from rfl] at h
  rw[h] at hp0
  simp at hp0
 | succ k ih=>
  intro last p blk b s H m hE hg hs' hbm hbq hpk h0 hla hlN hblk
  have hlen:(U4 (p.map fun (x:Nat)=>(x:Int))).length=p.length:=by rw[X9,List.length_map]
  have hp0:0<p.length:=(List.getElem?_eq_some_iff.1 h0).1
  have d1:decide ((p.length:Int)=(L:Int))=false:=by simp;omega
  have q0:(U4 (p.map fun (x:Nat)=>(x:Int)))[0]? = some (.int .i64 (start:Int)):=Z9 (by rw[List.getElem?_map,h0];rfl)
  have q1:(U4 (p.map fun (x:Nat)=>(x:Int)))[p.length-1]? = some (.int .i64 (last:Int)):=Z9 (by rw[List.getElem?_map,hla];rfl)
  have e1:((p.length:Int)-1).toNat=p.length-1:=by omega
  obtain⟨xl,gl,xl2,xlD⟩:=hL.at (u:=last) (by omega)
  have gl:=Q3 gl
  have hst:2^(start+1)-1<4294967296:=by
   have:2^(start+1)<=2^32:=Nat.pow_le_pow_right (by omega) (by omega)
   omega
  have blk32:blk<4294967296:=by omega
  have xl32:xl<4294967296:=by omega
  have o1:blk ||| xl<2^N:=Z26 hblk xl2
  have o132:blk ||| xl<4294967296:=by omega
  have o2:W87 aL blk last<2^N:=Z26 (by rw[xlD];exact o1) (R27 hlN)
  have o3:W87 aL blk last=(blk ||| xl) ||| 2^last:=by unfold W87;rw[xlD]
  have pl:2^last<4294967296:=by have:=R27 hlN;omega
  have l32:last<32:=by omega
  have lrg32:Q90 start<4294967296:=by unfold Q90;omega
  refine spec64 ?_
  unfold F64
  simp (config:={ maxSteps:=2000000 }) (disch:=first|omega|assumption|exact G0 (by assumption)|exact U10 (by assumption)|exact X0 (by omega)|fail) only[W0,Q0.val,hE.g8,d1,hg,q0,q1,e1]
  refine R0 (C51 (n:=start+1) (by omega) _ _) ?_
  rintro _ _ _ ⟨rfl,rfl,rfl⟩
  simp (config:={ maxSteps:=2000000 }) (disch:=first|omega|assumption|exact G0 (by assumption)|exact U10 (by assumption)|exact X0 (by omega)|fail) only[W0,K103 hst,hE.g4,gl,hE.g2]
  rw[show 4294967295-(2^(start+1)-1)=Q90 start from rfl,<- o3]
  generalize hlg:Q90 start=lg at *
  generalize haf:W87 aL blk last=af at *
  have af32:af<4294967296:=by omega
  refine B1 (m:=N) (fun q L' H' m'=>∃ v:Nat,q+v=N/\L'=[.int .i64 (v:Int)]/\(∀ u,u<v->Z91 aL N (k+1) blk start last u=false)/\D0 H m H' m') ?_ ⟨0,by omega,rfl,fun u h=>by omega,D0.self (by omega)⟩
  rintro q ihq L' H2 m2 ⟨v,hq,rfl,hno,e2⟩ hihq
  have hE2:=hE.ext e2
  have hg2:=(e2.get b hbm).trans hg
  by_cases hv:v<N
  case neg=>
   obtain rfl:v=N:=by omega
   have hv':¬ (v:Int)<(v:Int):=by omega
   simp (disch:=first|omega|assumption|exact G0 (by assumption)|exact U10 (by assumption)|exact X0 (by omega)|fail) only[W0,hv']
   rw[exF,D58 hno]
   exact⟨C66 _ _,KB.of e2⟩
  have hv':(v:Int)<(N:Int):=by omega
  have v32:v<32:=by omega
  have cand32:xl &&& lg<4294967296:=D52 xl32
  have cnd32:Z2 (xl &&& lg) blk<4294967296:=U10 cand32
  have hok:Z91 aL N (k+1) blk start last v=((Z2 (xl &&& lg) blk).testBit v&&decide (B75 aL N v start ((Z2 lg af ||| 2^v) ||| 2^start)=k+1)):=by
   unfold Z91
   rw[xlD,hlg,haf]
  have next:Z91 aL N (k+1) blk start last v=false->∀ u,u<v+1->Z91 aL N (k+1) blk start last u=false:=fun h u hu=>by
   by_cases e:u=v
   .subst e;exact h
   .exact hno u (by omega)
  rw[hok] at next
  cases hbit:(Z2 (xl &&& lg) blk).testBit v with
  | false=>
   simp (disch:=first|omega|assumption|exact G0 (by assumption)|exact U10 (by assumption)|exact X0 (by omega)|fail) only[W0,hv',N13,hE2.g4,gl,hbit]
   exact hihq (q-1) _ _ _ (by omega) ⟨v+1,by omega,by simp,next (by rw[hbit];rfl),e2⟩
  | true=>
   have n1:Z2 lg af<4294967296:=U10 lrg32
   have pv:2^v<4294967296:=by have:=R27 hv;omega
   have ps:2^start<4294967296:=by have:=R27 hs;omega
   have n2:Z2 lg af ||| 2^v<4294967296:=M54 n1 pv
   have n3:(Z2 lg af ||| 2^v) ||| 2^start<4294967296:=M54 n2 ps
   have s32:start<32:=by omega
   simp (config:={ maxSteps:=2000000 }) (disch:=first|omega|assumption|exact G0 (by assumption)|exact U10 (by assumption)|exact X0 (by omega)|fail) only[W0,hv',N13,hE2.g4,gl,hbit,hE2.g2,M18 h32]
   refine R0 (B83 hN hL hv hs n3 _ _) ?_
   rintro _ H3 m3 ⟨rfl,h3⟩
   have e3:=(e2.more (show m2<=m2+21 by omega)).trans h3
   have hE3:=hE.ext e3
   have hg3:=(e3.get b hbm).trans hg
   have hd7:=D81 hN hL (u:=v) (w:=start) (within:=(Z2 lg af ||| 2^v) ||| 2^start)
   generalize B75 aL N v start ((Z2 lg af ||| 2^v) ||| 2^start)=d at *
   have hLk:(L:Int)-(p.length:Int)=((k+1:Nat):Int):=by omega
   by_cases hdk:d=k+1
   .subst hdk
    simp (config:={ maxSteps:=2000000 }) (disch:=first|omega|assumption|exact G0 (by assumption)|exact U10 (by assumption)|exact X0 (by omega)|fail) only[W0,hE3.g8,hE2.g8,hE3.g12,hLk]
    have hbs:∀ (x:Int) k,K6 1 1 [.int .i64 0] [(0,.int .i64 x)] k=k [.int .i64 x]:=fun x k=>rfl
    rw[hbs]
    have hE4:D0 H3 m3 (Go.Clo.hs H3 (m3+3) (some (.cells [.int .i64 (v:Int)] 0))) (m3+8):=(D0.refl _ _).new _ (by omega) (by omega)
    have g4:J0 (Go.Clo.hs H3 (m3+3) (some (.cells [.int .i64 (v:Int)] 0))) (m3+3)=some (.cells [.int .i64 (v:Int)] 0):=Z11 _ _ _
    generalize Go.Clo.hs H3 (m3+3) (some (.cells [.int .i64 (v:Int)] 0))=H4 at *
    have hg4:J0 H4 b=some (.cells (U4 (p.map fun (x:Nat)=>(x:Int))) s):=(hE4.get b (by have:=e3.le;omega)).trans hg3
    obtain⟨n9,hn9⟩:∃ n9,n9=m3+8:=⟨_,rfl⟩
    rw[<- hn9] at hE4
    rw[<- hn9]
    have hap:∀ kk:EP,(∀ H',J0 H' (n9)=some (.cells (U4 ((p++[v]).map fun (x:Nat)=>(x:Int))) 1)->(∀ i,i≠n9->i≠b->J0 H' i=J0 H4 i)->kk (.slice (some ⟨n9,0,none⟩) (p++[v]).length (p++[v]).length) H' (n9+1)) ->
      B5 (.slice (some ⟨b,0,none⟩) p.length p.length) (.slice (some ⟨m3+3,0,none⟩) 1 1) 1 8 H4 (n9) kk:=fun kk hkk=>by
     have:=Q64 (nx:=n9) (k:=kk) (bytes:=8) hg4 hs' (by rw[hlen];exact hp0) (J9 (cap:=1) g4 rfl (by omega)) rfl (by omega) (by rw[hlen];omega) (fun H' q1 q2=>by
      rw[hlen]
      have:=hkk H' (by rw[q1];simp[U4]) q2
      simpa using this)
     rwa [hlen] at this
    refine hap _ ?_
    intro H5 g5 f5
    have hle3:=e3.le
    have hE5:ExE aL N L q8 q4 q2 q12 H5 (n9+1):=(hE3.ext hE4).step (by omega) fun i hi=>by
     have a1:=hE3.l8;have a2:=hE3.l4;have a3:=hE3.l2;have a4:=hE3.l12
     exact f5 i (by omega) (by omega)
    have b1:=hE3.l8;have b2:=hE3.l4;have b3:=hE3.l2;have b4:=hE3.l12
    refine V22 (ih v (p++[v]) af (n9) 1 H5 (n9+1) hE5 g5 (.inr rfl) (by omega) ⟨by omega,by omega,by omega,by omega⟩ (by simp;omega) (by rw[List.getElem?_append_left hp0];exact h0) (by simp) hv (by omega)) ?_
    rintro r H6 m6 ⟨h6,k6⟩
    simp (disch:=first|omega|assumption|exact G0 (by assumption)|exact U10 (by assumption)|exact X0 (by omega)|fail) only[W0,hE5.g12]
    rw[exF,J55 hno hv (by rw[hok,hbit,decide_eq_true rfl];rfl),haf]
    refine⟨h6,⟨by have:=k6.le;omega,fun i hi hne => ?_⟩⟩
    rw[k6.get i (by omega) (by omega),f5 i (by omega) hne,hE4.get i (by omega)]
    exact e3.get i hi
   .have hdk':decide ((d:Int)=((k+1:Nat):Int))=false:=by simp;omega
    simp (config:={ maxSteps:=2000000 }) (disch:=first|omega|assumption|exact G0 (by assumption)|exact U10 (by assumption)|exact X0 (by omega)|fail) only[W0,hE3.g8,hE2.g8,hLk,hdk']
    exact hihq (q-1) _ _ _ (by omega) ⟨v+1,by omega,by simp,next (by rw[hbit,decide_eq_false hdk];rfl),e3⟩
end
end Go.Proofs.YtoiioigihocgbaaGreatDoor
namespace Go.Clo
theorem N34(t:TypeId)(A:Option Addr)(n c:Nat)(k:VP):D9 (.eqn true (.slice t)) [.slice A n c,.slice none 0 0] k=k (.bool A.isSome):=by
 have e:VF.ev (.eqn true (.slice t)) [.slice A n c,.slice none 0 0]=some (.bool A.isSome):=by cases A<;>rfl
 unfold D9;rw[e,J8];rfl
def Cyg(l:Nat):Prop:=l<=9/\(l=0\/3<=l)
theorem C110{d l:Nat}(hd:d<=7)(h:Cyg l):Cyg (cyD d l):=by
 unfold cyD
 split
 .exact⟨by omega,.inr (by omega)⟩
 .exact h
theorem Y100{aL:List Nat}{N v u l:Nat}(hd:∀ u w within,B75 aL N u w within<=7)(h:Cyg l):∀ w,Cyg (cyW aL N v u l w)
 | 0=>h
 | w+1=>by
  unfold cyW
  split
  .exact C110 (hd _ _ _) (Y100 hd h w)
  .exact Y100 hd h w
theorem E106{aL:List Nat}{N v l:Nat}(hd:∀ u w within,B75 aL N u w within<=7)(h:Cyg l):∀ u,Cyg (cyU aL N v l u)
 | 0=>h
 | u+1=>Y100 hd (E106 hd h u) u
theorem U93{aL:List Nat}{N:Nat}(hd:∀ u w within,B75 aL N u w within<=7):∀ v,Cyg (cyV aL N v)
 | 0=>⟨by show 0<=9;omega,.inl rfl⟩
 | v+1=>E106 hd (U93 hd v) N
theorem Q93{aL:List Nat}{N L s j:Nat}(h:scW aL N L s j≠[]):∀ d,scW aL N L s (j+d)=scW aL N L s j
 | 0=>rfl
 | d+1=>by
  have ih:=Q93 h d;rw[<- eH,scW,if_neg (fun hh=>h (by rw[<- ih];exact hh.1)),ih]
theorem R95{aL:List Nat}{N L s:Nat}(h:scV aL N L s≠[]):∀ d,scV aL N L (s+d)=scV aL N L s
 | 0=>rfl
 | d+1=>by
  have ih:=R95 h d;rw[<- eH,scV,if_neg (fun hh=>h (by rw[<- ih];exact hh)),ih]
end Go.Clo
namespace Go.Proofs.YtoiioigihocgbaaGreatDoor
open Go.Clo
section
variable {aL:List Nat} {N:Nat} (hN:N<=6) (hL:NbL aL N)
include hN hL
theorem C85 (H:Y0) (nx:Nat):Q2 Tryz.prog 30 [.int .i64 (N:Int),.agg ⟨K12 aL⟩] H nx fun r H' nx'=>LsR (scF aL N) r H' nx'/\D0 H nx H' nx':=by
 have hp64:2^N<=64:=Nat.pow_le_pow_right (n:=2) (by omega) hN
 have hp1:0<2^N:=Nat.two_pow_pos N
 have h32:=M44 hN hL
 have hcy:=U93 (aL:=aL) (N:=N) (fun u w within=>D81 hN hL) N
 refine spec30 ?_
 unfold F30
 simp (disch:=first|omega|assumption|exact G0 (by assumption)|exact U10 (by assumption)|exact X0 (by omega)|fail) only[W0,Q0.val,W5 aL]
 have hE0:D0 H nx (hs (hs H nx (some (.cells [.int .i64 (N:Int)] 0))) (nx+1) (some (.cells (K12 aL) 0))) (nx+1+1):=((D0.refl H nx).new _ (Nat.le_refl _) (m:=nx+1) (by omega)).new _ (by omega) (by omega)
 have g2:J0 (hs (hs H nx (some (.cells [.int .i64 (N:Int)] 0))) (nx+1) (some (.cells (K12 aL) 0))) nx=some (.cells [.int .i64 (N:Int)] 0):=by rw[Z1 _ (by omega),Z11]
 have g4:J0 (hs (hs H nx (some (.cells [.int .i64 (N:Int)] 0))) (nx+1) (some (.cells (K12 aL) 0))) (nx+1)=some (.cells (K12 aL) 0):=Z11 _ _ _
 generalize hs (hs H nx (some (.cells [.int .i64 (N:Int)] 0))) (nx+1) (some (.cells (K12 aL) 0))=H1 at *
 simp (disch:=first|omega|assumption|exact G0 (by assumption)|exact U10 (by assumption)|exact X0 (by omega)|fail) only[M18 h32]
 refine R0 (D89 hN hL _ _) ?_
 rintro _ H3 n3 ⟨rfl,h3⟩
 have g23:=(h3.get nx (by omega)).trans g2
 have g43:=(h3.get (nx+1) (by omega)).trans g4
 have hle3:=h3.le
 have hput:∀ a b:Value,B12 [a] 0 [b]=[b]:=fun _ _=>rfl
 simp (disch:=first|omega|assumption|exact G0 (by assumption)|exact U10 (by assumption)|exact X0 (by omega)|fail) only[W0,hput]
 have hE5:D0 H3 n3 (hs (hs H3 n3 (some (.cells [.int .i64 0] 0))) n3 (some (.cells [.int .i64 (cyV aL N N:Int)] 0))) (n3+1):=((D0.refl H3 n3).new _ (Nat.le_refl _) (m:=n3+1) (by omega)).hs (Nat.le_refl _)
 have g8:J0 (hs (hs H3 n3 (some (.cells [.int .i64 0] 0))) n3 (some (.cells [.int .i64 (cyV aL N N:Int)] 0))) n3=some (.cells [.int .i64 (cyV aL N N:Int)] 0):=Z11 _ _ _
 generalize hs (hs H3 n3 (some (.cells [.int .i64 0] 0))) n3 (some (.cells [.int .i64 (cyV aL N N:Int)] 0))=H5 at *
 have hE05:=(hE0.trans h3).trans hE5
 unfold scF
 generalize cyV aL N N=L at *
 by_cases hL0:L=0
 .simp (disch:=first|omega|assumption|exact G0 (by assumption)|exact U10 (by assumption)|exact X0 (by omega)|fail) only[W0,decide_eq_true hL0]
  rw[if_pos hL0]
  exact⟨C66 _ _,hE05⟩
 rw[if_neg hL0]
 have g25:=(hE5.get nx (by omega)).trans g23
 have g45:=(hE5.get (nx+1) (by omega)).trans g43
 simp (disch:=first|omega|assumption|exact G0 (by assumption)|exact U10 (by assumption)|exact X0 (by omega)|fail) only[W0,decide_eq_false hL0,g23]
 have hE7:D0 H5 (n3+1) (hs (hs H5 (n3+1) (some (.cells [.nilFunc] 0))) (n3+1) (some (.cells [.func (.func 64) ⟨[]⟩ ⟨[.pointer (some ⟨n3,0,none⟩),.pointer (some ⟨nx+1,0,none⟩),.pointer (some ⟨nx,0,none⟩),.pointer (some ⟨n3+1,0,none⟩)]⟩] 0))) (n3+1+1):=((D0.refl H5 (n3+1)).new _ (Nat.le_refl _) (m:=n3+1+1) (by omega)).hs (Nat.le_refl _)
 have g12:J0 (hs (hs H5 (n3+1) (some (.cells [.nilFunc] 0))) (n3+1) (some (.cells [.func (.func 64) ⟨[]⟩ ⟨[.pointer (some ⟨n3,0,none⟩),.pointer (some ⟨nx+1,0,none⟩),.pointer (some ⟨nx,0,none⟩),.pointer (some ⟨n3+1,0,none⟩)]⟩] 0))) (n3+1)=some (.cells [.func (.func 64) ⟨[]⟩ ⟨[.pointer (some ⟨n3,0,none⟩),.pointer (some ⟨nx+1,0,none⟩),.pointer (some ⟨nx,0,none⟩),.pointer (some ⟨n3+1,0,none⟩)]⟩] 0):=Z11 _ _ _
 generalize hs (hs H5 (n3+1) (some (.cells [.nilFunc] 0))) (n3+1) (some (.cells [.func (.func 64) ⟨[]⟩ ⟨[.pointer (some ⟨n3,0,none⟩),.pointer (some ⟨nx+1,0,none⟩),.pointer (some ⟨nx,0,none⟩),.pointer (some ⟨n3+1,0,none⟩)]⟩] 0))=H7 at *
 have g27:=(hE7.get nx (by omega)).trans g25
 have g47:=(hE7.get (nx+1) (by omega)).trans g45
 have g87:=(hE7.get n3 (by omega)).trans g8
 have hX:ExE aL N L n3 (nx+1) nx (n3+1) H7 (n3+1+1):=⟨g87,g47,g27,g12,by omega,by omega,by omega,by omega⟩
 have hE07:=hE05.trans hE7
 clear g12 g27 g47 g87 g25 g45 g8
 refine B1 (m:=N) (fun m L' H' nx'=>∃ s:Nat,m+s=N/\L'=[.int .i64 (s:Int)]/\scV aL N L s=[]/\D0 H7 (n3+1+1) H' nx') ?_ ⟨0,by omega,rfl,rfl,D0.refl _ _⟩
 rintro m ih L1 H8 n8 ⟨s,hm,rfl,hsV,e8⟩ hih
 have hX8:=hX.ext e8
 by_cases hs:s<N
 case neg=>
  obtain rfl:s=N:=by omega
  have hs':¬ (s:Int)<(s:Int):=by omega
  simp (disch:=first|omega|assumption|exact G0 (by assumption)|exact U10 (by assumption)|exact X0 (by omega)|fail) only[W0,hs']
  rw[hsV]
  exact⟨C66 _ _,hE07.trans e8⟩
 have hs':(s:Int)<(N:Int):=by omega
 simp (disch:=first|omega|assumption|exact G0 (by assumption)|exact U10 (by assumption)|exact X0 (by omega)|fail) only[W0,hs',hX8.g2]
 refine B1 (m:=N) (fun m L' H' nx'=>∃ j:Nat,m+j=N/\L'=[.int .i64 (j:Int)]/\scW aL N L s j=[]/\D0 H7 (n3+1+1) H' nx') ?_ ⟨0,by omega,rfl,rfl,e8⟩
 rintro m2 ih2 L1 H9 n9 ⟨j,hm2,rfl,hsW,e9⟩ hih2
 have hX9:=hX.ext e9
 by_cases hj:j<N
 case neg=>
  obtain rfl:j=N:=by omega
  have hj':¬ (j:Int)<(j:Int):=by omega
  simp (disch:=first|omega|assumption|exact G0 (by assumption)|exact U10 (by assumption)|exact X0 (by omega)|fail) only[W0,hj']
  exact hih (m-1) _ _ _ (by omega) ⟨s+1,by omega,by simp,by rw[scV,if_pos hsV];exact hsW,e9⟩
 have hj':(j:Int)<(N:Int):=by omega
 obtain⟨xs,gs,xs2,xsD⟩:=hL.at (u:=s) (by omega)
 have gs:=Q3 gs
 have xs32:xs<4294967296:=by omega
 have j32:j<32:=by omega
 have hnb:nbB aL s j=xs.testBit j:=by unfold nbB;rw[xsD]
 have next:scW aL N L s (j+1)=if s<j/\xs.testBit j=true then exF aL N s (L-2) j [s,j] 0 else []:=by
  rw[scW,hnb,hsW]
  by_cases h:s<j/\xs.testBit j=true
  .rw[if_pos ⟨rfl,h⟩,if_pos h]
  .rw[if_neg (fun hh=>h hh.2),if_neg h]
 have c1:decide ((j:Int) > (s:Int))=decide (s<j):=by congr 1;apply propext;omega
 simp (disch:=first|omega|assumption|exact G0 (by assumption)|exact U10 (by assumption)|exact X0 (by omega)|fail) only[W0,hj']
 rw[N13]
 refine N5 (fun L' H' nx'=>L'=[.bool (decide (s<j)&&xs.testBit j)]/\H9=H'/\n9=nx') ?_ ?_
 .intro jj hjj
  by_cases q:s<j
  .simp (disch:=first|omega|assumption|exact G0 (by assumption)|exact U10 (by assumption)|exact X0 (by omega)|fail) only[W0,c1,decide_eq_true q,hX9.g4,gs]
   exact hjj _ _ _ ⟨by simp[q],rfl,rfl⟩
  .simp (disch:=first|omega|assumption|exact G0 (by assumption)|exact U10 (by assumption)|exact X0 (by omega)|fail) only[W0,c1,decide_eq_false q]
   exact hjj _ _ _ ⟨by simp[q],rfl,rfl⟩
 rintro L1 _ _ ⟨rfl,rfl,rfl⟩
 by_cases hb:s<j/\xs.testBit j=true
 case neg=>
  have hb':(decide (s<j)&&xs.testBit j)=false:=by
   rw[Bool.eq_false_iff]
   intro h
   rw[Bool.and_eq_true,decide_eq_true_iff] at h
   exact hb h
  rw[hb']
  simp (disch:=first|omega|assumption|exact G0 (by assumption)|exact U10 (by assumption)|exact X0 (by omega)|fail) only[W0]
  exact hih2 (m2-1) _ _ _ (by omega) ⟨j+1,by omega,by simp,by rw[next,if_neg hb],e9⟩
 have hb':(decide (s<j)&&xs.testBit j)=true:=by rw[Bool.and_eq_true,decide_eq_true_iff];exact hb
 rw[hb']
 rw[if_pos hb] at next
 have hbs:∀ (x y:Int) k,K6 2 1 [.int .i64 0] [(0,.int .i64 x),(1,.int .i64 y)] k=k [.int .i64 x,.int .i64 y]:=fun x y k=>rfl
 simp (disch:=first|omega|assumption|exact G0 (by assumption)|exact U10 (by assumption)|exact X0 (by omega)|fail) only[W0,hX9.g12,hbs]
 have hE10:D0 H9 n9 (Go.Clo.hs H9 n9 (some (.cells [.int .i64 (s:Int),.int .i64 (j:Int)] 0))) (n9+1):=(D0.refl _ _).new _ (Nat.le_refl _) (by omega)
 have g10:J0 (Go.Clo.hs H9 n9 (some (.cells [.int .i64 (s:Int),.int .i64 (j:Int)] 0))) n9=some (.cells [.int .i64 (s:Int),.int .i64 (j:Int)] 0):=Z11 _ _ _
 generalize Go.Clo.hs H9 n9 (some (.cells [.int .i64 (s:Int),.int .i64 (j:Int)] 0))=H10 at *
 have hle9:=e9.le
 refine V22 (Z99 hN hL hs hcy.1 (L-2) j [s,j] 0 n9 0 H10 (n9+1) (hX9.ext hE10) g10 (.inl rfl) (by omega) ⟨by omega,by omega,by omega,by omega⟩ (by have:=hcy.2;simp;omega) rfl rfl hj hp1) ?_
 rintro _ H11 n11 ⟨⟨A,rfl,hAn,hAS⟩,k11⟩
 rw[<- next] at hAn hAS ⊢
 have e11:D0 H7 (n3+1+1) H11 n11:=⟨by have:=k11.le;omega,fun i hi=>by rw[k11.get i (by omega) (by omega),hE10.get i (by omega)];exact e9.get i hi⟩
 by_cases hA:scW aL N L s (j+1)=[]
 .have hAn':=hAn.2 hA
  subst hAn'
  rw[hA]
  simp (disch:=first|omega|assumption|exact G0 (by assumption)|exact U10 (by assumption)|exact X0 (by omega)|fail) only[W0,N34,Option.isSome_none]
  exact hih2 (m2-1) _ _ _ (by omega) ⟨j+1,by omega,by simp,hA,e11⟩
 .have hAs:A.isSome=true:=by
   cases A with
   | none=>exact absurd (hAn.1 rfl) hA
   | some a=>rfl
  have k1:=Q93 hA (N-(j+1))
  rw[show j+1+(N-(j+1))=N by omega] at k1
  have k0:scV aL N L (s+1)=scW aL N L s (j+1):=by rw[scV,if_pos hsV,k1]
  have k2:=R95 (by rw[k0];exact hA:scV aL N L (s+1)≠[]) (N-(s+1))
  rw[show s+1+(N-(s+1))=N by omega] at k2
  simp (disch:=first|omega|assumption|exact G0 (by assumption)|exact U10 (by assumption)|exact X0 (by omega)|fail) only[W0,N34,hAs]
  rw[k2,k0]
  exact⟨⟨A,rfl,hAn,hAS⟩,hE07.trans e11⟩
end
end Go.Proofs.YtoiioigihocgbaaGreatDoor
