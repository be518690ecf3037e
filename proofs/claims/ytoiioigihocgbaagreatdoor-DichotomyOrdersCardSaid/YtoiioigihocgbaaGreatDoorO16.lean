/-
  Contracts: connex.around;connex.walk up to its range over slices.Backward.
  connex.walk: what stands before its range over slices.Backward.
  Plain: what is reached through some vertices.
  Plain: reductions of hypergraphs,elimination orders without fill,simplicial vertices outside a clique,chordless paths.
  Plain: a graph has an elimination order without fill that ends with the free vertices exactly if it is acyclic,has no free path and no disruptive trio.
  Plain: graphs without chordless cycles,and elimination orders without fill.
  Plain: the length of the shortest chordless cycle.
  Plain: a shortest chordless cycle is found.
  .
  .
  .
  .
  .
  .
  .
  Plain: the best width is at most 1 exactly if the graph is acyclic,has no free path and no disruptive trio.
  Plain: connex.Path finds a path exactly if there is a free path.
-/
import Derived.Test.YtoiioigihocgbaaGreatDoorO15
import Derived.RangeFuncCalls
import Derived.Test.YtoiioigihocgbaaGreatDoorO14
import Derived.Test.YtoiioigihocgbaaGreatDoorO9
set_option maxHeartbeats 8000000
set_option maxRecDepth 100000
set_option linter.all false
open Array renaming replicate->fN
open Bool renaming and_eq_true->aG,eq_false_iff->bN,eq_iff_iff->eX,false_eq_true->dQ,not_eq_true'->cJ,or_eq_true->cO
open Classical renaming byContradiction->aI,propDecidable->fJ
open List renaming any_eq_true->dY,countP_eq_length_filter->fS,ext_getElem?->dH,foldl_cons->dF,getD_eq_getElem?_getD->aP,getElem?_append_left->bQ,getElem?_append_right->bS,getElem?_cons_succ->dK,getElem?_drop->dB,getElem?_eq_getElem->aE,getElem?_eq_none->aT,getElem?_eq_some_iff->aJ,getElem?_map->cP,getElem?_of_mem->cH,getElem?_set->cQ,getElem?_set_ne->bL,getElem?_set_self->dG,getElem?_take->aX,getElem_of_mem->gL,length_append->bH,length_eq_zero_iff->dT,length_filter_lt_length_iff_exists->fG,length_map->gM,length_set->dO,length_take->cK,mem_append->dN,mem_cons->aU,mem_filter->dA,mem_map->gN,mem_of_getElem?->aH,mem_range->cW,pairwise_iff_getElem->fD,range->aY,replicate->aF,take_of_length_le->gJ
open List.cons renaming injEq->fM
open Nat renaming eq_of_testBit_eq->bZ,eq_zero_or_pos->cI,le_of_lt->eG,le_refl->aD,lt_of_lt_of_le->aO,lt_or_ge->aW,mod_eq_of_lt->bV,mod_lt->eZ,pow_le_pow_right->aK,testBit_and->bI,testBit_or->aV,testBit_two_pow->aR,testBit_two_pow_sub_one->dC,two_pow_pos->aQ,zero_testBit->cN
open Ne renaming symm->eT
open Rat renaming mul_nonneg->fY
namespace Go.Clo
theorem B47 {P:Program} {n d:Nat} (hm:P.follows .mixedOrders=true) (hn:n<=2^d) {G6:Code} {c:D} (hc:R18 P n G6=some c.erase) (hok:c.ok n d=true) {T:K0 Value} {H:Y0} {nx:Nat} (hw:WF d T) {k:K Prop}
  (h:wD P d c T H nx k (fun _ _ _ _=>False) (fun _ _ _=>False)):∃ T' H' nx',k T' H' nx'/\WF d T'/\R47 P d n G6 T H nx .n T' H' nx':=by
 obtain⟨o,T',H',nx',h1,hw',_,hok1⟩:=W45 hm hn G6 c hc hok T H nx k _ _ hw h
 cases o with
 | n=>exact⟨T',H',nx',h1,hw',hok1⟩
 | x id=>exact h1.elim
 | r=>exact h1.elim
end Go.Clo
namespace Go.Proofs.YtoiioigihocgbaaGreatDoor
open Go.Clo
section
variable {aL:List Nat} {N:Nat} (hN:N<=6) (hL:NbL aL N)
include hN hL
theorem Z35 {b:Nat} (hb:b<4294967296) (H:Y0) (nx:Nat):Q2 Tryz.prog 71 [.agg ⟨K12 aL⟩,.int .u32 (b:Int)] H nx fun r H' nx'=>r = .int .u32 (Q4 aL b 32:Int)/\D0 H nx H' nx':=by
 have hp64:2^N<=64:=Nat.pow_le_pow_right (n:=2) (by omega) hN
 refine spec71 ?_
 unfold F71
 have hE1:D0 H nx (hs H nx (some (.cells (K12 aL) 0))) (nx+1):=(D0.refl H nx).new _ (Nat.le_refl _) (by omega)
 have g1:J0 (hs H nx (some (.cells (K12 aL) 0))) nx=some (.cells (K12 aL) 0):=Z11 _ _ _
 simp (disch:=first|omega|assumption|exact G0 (by assumption)|exact U10 (by assumption)|exact X0 (by omega)|fail) only[W0,Q0.val,W5 aL]
 generalize hs H nx (some (.cells (K12 aL) 0))=H1 at *
 refine B1 (m:=32) (fun q L H' nx'=>∃ (j:Nat),q+j=32/\L=[.int .u32 (Q4 aL b j:Int),.int .i64 (j:Int)]/\H1=H'/\nx+1=nx') ?_ ⟨0,by omega,rfl,rfl,rfl⟩
 rintro q ih7 L _ _ ⟨j,hq,rfl,rfl,rfl⟩ hih7
 have hnl:=Z14 (b:=b) hL.lt
 by_cases hj:j<32
 case neg=>
  obtain rfl:j=32:=by omega
  simp (disch:=first|omega|assumption|exact G0 (by assumption)|exact U10 (by assumption)|exact X0 (by omega)|fail) only[W0]
  exact hE1
 have hj':(j:Int)<32:=by omega
 obtain⟨x,hx,hx2,hxD⟩:=hL.at (u:=j) hj
 have hx32:x<4294967296:=by omega
 have hnj:=hnl j
 have hn32:Q4 aL b j<4294967296:=by omega
 have gx:=Q3 hx
 have hstep:Q4 aL b (j+1)=if b.testBit j=true then Q4 aL b j ||| aL.getD j 0 else Q4 aL b j:=rfl
 rw[hxD] at hstep
 cases hbj:b.testBit j with
 | false=>
  rw[hbj,if_neg (by simp)] at hstep
  simp (disch:=first|omega|assumption|exact G0 (by assumption)|exact U10 (by assumption)|exact X0 (by omega)|fail) only[W0,hj',N13,hbj]
  exact hih7 (q-1) _ _ _ (by omega) ⟨j+1,by omega,by rw[hstep];try simp,rfl,rfl⟩
 | true=>
  rw[hbj,if_pos rfl] at hstep
  simp (disch:=first|omega|assumption|exact G0 (by assumption)|exact U10 (by assumption)|exact X0 (by omega)|fail) only[W0,hj',N13,hbj,g1,gx]
  exact hih7 (q-1) _ _ _ (by omega) ⟨j+1,by omega,by rw[hstep];try simp,rfl,rfl⟩
def C12(aL:List Nat)(inn last len:Nat):List Nat:=(aY len).map (U5 aL inn last)
omit hN hL in
theorem G45(inn last len:Nat):(C12 aL inn last len).length=len:=by simp[C12]
omit hN hL in
theorem G44{inn last len i:Nat}(h:i<len):(C12 aL inn last len)[i]? = some (U5 aL inn last i):=by simp[C12,h]
omit hN hL in
theorem J57(inn last len:Nat):C12 aL inn last (len+1)=C12 aL inn last len++[U5 aL inn last len]:=by simp[C12,List.range_succ]
theorem J59{inn last first len:Nat}(hi:inn<2^N)(Q:last<2^N)(hf:first<100)(h1:1<=len)(ab:len<=100)(H:Y0)(nx:Nat):
  F37 (.agg ⟨K12 aL⟩) (.int .u32 (inn:Int)) (.int .i64 (first:Int)) (.int .u32 (last:Int)) (.int .i64 (len:Int)) H nx fun v H' nx'=>
   ∃ S s,v = .tuple ⟨[.pointer (some ⟨nx,0,none⟩),.slice (some ⟨S,0,none⟩) len len,.int .i64 (first:Int)]⟩/\J0 H' nx=some (.cells (K12 aL) 0)/\J0 H' S=some (.cells (K12 (C12 aL inn last len)) s)/\nx<nx'/\S<nx':=by
 have a8:2^N<=64:=aK (n:=2) (by omega) hN;have a3:=M44 hN hL;unfold F37;have J:∀(x:Int) k,K6 1 1 [.int .u32 0] [(0,.int .u32 x)] k=k [.int .u32 x]:=fun x k=>rfl
 simp(disch:=first|omega|assumption)only[W0,Q0.val,W5 aL,J];have g1:J0 (hs (hs H nx (some (.cells (K12 aL) 0))) (nx+1) (some (.cells [.int .u32 (last:Int)] 0))) nx=some (.cells (K12 aL) 0):=by rw[Z1 _ (by omega),Z11]
 have g2:J0 (hs (hs H nx (some (.cells (K12 aL) 0))) (nx+1) (some (.cells [.int .u32 (last:Int)] 0))) (nx+1)=some (.cells [.int .u32 (last:Int)] 0):=Z11 _ _ _;generalize hs (hs H nx (some (.cells (K12 aL) 0))) (nx+1) (some (.cells [.int .u32 (last:Int)] 0))=H1 at *
 refine B1 (m:=len-1) (fun m L' H' nx'=>∃(i S s:Nat),m+i+1=len/\L'=[.slice (some ⟨S,0,none⟩) (i+1) (i+1),.int .i64 (i:Int)]/\J0 H' nx=some (.cells (K12 aL) 0)/\J0 H' S=some (.cells (K12 (C12 aL inn last (i+1))) s)/\(s=0\/s=1)/\nx<nx'/\S<nx'/\S≠nx) ?_
  ⟨0,nx+1,0,by omega,rfl,g1,by rw[g2];rfl,.inl rfl,by omega,by omega,by omega⟩
 rintro m ih L1 H2 n2 ⟨i,S,s,hm,rfl,k1,k2,hs',a1,W,ad⟩ a5;have Z:=G45 (aL:=aL) inn last (i+1)
 by_cases ag:i+1<len
 case neg=>
  obtain rfl:len=i+1:=by omega
  have E:¬ (i:Int)<((i+1:Nat):Int)-1:=by omega
  simp(disch:=first|omega|assumption)only[W0,E];exact⟨S,s,rfl,k1,k2,a1,W⟩
 have E:(i:Int)<(len:Int)-1:=by omega
 have q0:=Q3 (G44 (aL:=aL) (inn:=inn) (last:=last) (show i<i+1 by omega));have e1:(((i+1:Nat):Int)-1).toNat=i:=by omega
 have ae:U5 aL inn last i<2^N:=R42 hi Q i;have aa:=Z14 (b:=U5 aL inn last i) hL.lt 32;have ac:Q4 aL (U5 aL inn last i) 32<4294967296:=by omega
 have ah:inn<4294967296:=by omega
 simp(config:={ maxSteps:=2000000 }) (disch:=first|omega|assumption)only[W0,E,k1,k2,q0,e1,M18 a3];refine R0 (Z35 hN hL (by omega) H2 (n2+14)) ?_;rintro _ H3 n3 ⟨rfl,h3⟩;have a9:=h3.le;have U:=(h3.get nx (by omega)).trans k1;have V:=(h3.get S (by omega)).trans k2;simp(config:={ maxSteps:=2000000 }) (disch:=first|omega|assumption)only[W0,J];have es:Q4 aL (U5 aL inn last i) 32 &&& inn=U5 aL inn last (i+1):=rfl;rw[es];have g5:J0 (hs H3 (n2+11) (some (.cells [.int .u32 (U5 aL inn last (i+1):Int)] 0))) (n2+11)=some (.cells [.int .u32 (U5 aL inn last (i+1):Int)] 0):=Z11 _ _ _;have a4:J0 (hs H3 (n2+11) (some (.cells [.int .u32 (U5 aL inn last (i+1):Int)] 0))) nx=some (.cells (K12 aL) 0):=by rw[Z1 _ (by omega)];exact U
 have a0:J0 (hs H3 (n2+11) (some (.cells [.int .u32 (U5 aL inn last (i+1):Int)] 0))) S=some (.cells (K12 (C12 aL inn last (i+1))) s):=by rw[Z1 _ (by omega)];exact V
 generalize hs H3 (n2+11) (some (.cells [.int .u32 (U5 aL inn last (i+1):Int)] 0))=H5 at *
 have O:(K12 (C12 aL inn last (i+1))).length=i+1:=by rw[E1,Z]
 have a2:∀ kk:EP,(∀ H',J0 H' n3=some (.cells (K12 (C12 aL inn last (i+1+1))) 1)->(∀ j,j≠n3->j≠S->J0 H' j=J0 H5 j)->kk (.slice (some ⟨n3,0,none⟩) (i+1+1) (i+1+1)) H' (n3+1)) ->
   B5 (.slice (some ⟨S,0,none⟩) (i+1) (i+1)) (.slice (some ⟨n2+11,0,none⟩) 1 1) 1 4 H5 n3 kk:=fun kk a7=>by
  have:=Q64 (nx:=n3) (k:=kk) (bytes:=4) a0 hs' (by omega) (J9 (cap:=1) g5 rfl (by omega)) rfl (by omega) (by omega) (fun H' q1 q2=>by
   rw[O];exact a7 H' (by rw[q1,J57 inn last (i+1),Y22];rfl) q2)
  rwa [O] at this
 refine a2 _ ?_;intro H7 g7 f7;have a6:=(f7 nx (by omega) (by omega)).trans a4;exact a5 (m-1) _ _ _ (by omega) ⟨i+1,n3,1,by omega,by simp,a6,g7,.inr rfl,by omega,by omega,by omega⟩
end
section
open Go.RowKit Go.Shelf
theorem R70(a:Array Value)(h:a.size=58):∃ x0 x1 x2 x3 x4 x5 x6 x7 x8 x9 aj b3 a0 b4 ak E az ag a2 al Q W ax b5 ao ai a3 J a5 U a1 a6 aq a7 a4 ad ay ac ba O bc ae au b8 ab Z V bf an a9 av ah bd aa bg aw a8 ap,a = #[x0,x1,x2,x3,x4,x5,x6,x7,x8,x9,aj,b3,a0,b4,ak,E,az,ag,a2,al,Q,W,ax,b5,ao,ai,a3,J,a5,U,a1,a6,aq,a7,a4,ad,ay,ac,ba,O,bc,ae,au,b8,ab,Z,V,bf,an,a9,av,ah,bd,aa,bg,aw,a8,ap]:=by
 obtain⟨l⟩:=a;simp only[List.size_toArray] at h;obtain _ | ⟨x0,l⟩:=l
 .simp at h
 obtain _ | ⟨x1,l⟩:=l
 .simp at h
 obtain _ | ⟨x2,l⟩:=l
 .simp at h
 obtain _ | ⟨x3,l⟩:=l
 .simp at h
 obtain _ | ⟨x4,l⟩:=l
 .simp at h
 obtain _ | ⟨x5,l⟩:=l
 .simp at h
 obtain _ | ⟨x6,l⟩:=l
 .simp at h
 obtain _ | ⟨x7,l⟩:=l
 .simp at h
 obtain _ | ⟨x8,l⟩:=l
 .simp at h
 obtain _ | ⟨x9,l⟩:=l
 .simp at h
 obtain _ | ⟨aj,l⟩:=l
 .simp at h
 obtain _ | ⟨b3,l⟩:=l
 .simp at h
 obtain _ | ⟨a0,l⟩:=l
 .simp at h
 obtain _ | ⟨b4,l⟩:=l
 .simp at h
 obtain _ | ⟨ak,l⟩:=l
 .simp at h
 obtain _ | ⟨E,l⟩:=l
 .simp at h
 obtain _ | ⟨az,l⟩:=l
 .simp at h
 obtain _ | ⟨ag,l⟩:=l
 .simp at h
 obtain _ | ⟨a2,l⟩:=l
 .simp at h
 obtain _ | ⟨al,l⟩:=l
 .simp at h
 obtain _ | ⟨Q,l⟩:=l
 .simp at h
 obtain _ | ⟨W,l⟩:=l
 .simp at h
 obtain _ | ⟨ax,l⟩:=l
 .simp at h
 obtain _ | ⟨b5,l⟩:=l
 .simp at h
 obtain _ | ⟨ao,l⟩:=l
 .simp at h
 obtain _ | ⟨ai,l⟩:=l
 .simp at h
 obtain _ | ⟨a3,l⟩:=l
 .simp at h
 obtain _ | ⟨J,l⟩:=l
 .simp at h
 obtain _ | ⟨a5,l⟩:=l
 .simp at h
 obtain _ | ⟨U,l⟩:=l
 .simp at h
 obtain _ | ⟨a1,l⟩:=l
 .simp at h
 obtain _ | ⟨a6,l⟩:=l
 .simp at h
 obtain _ | ⟨aq,l⟩:=l
 .simp at h
 obtain _ | ⟨a7,l⟩:=l
 .simp at h
 obtain _ | ⟨a4,l⟩:=l
 .simp at h
 obtain _ | ⟨ad,l⟩:=l
 .simp at h
 obtain _ | ⟨ay,l⟩:=l
 .simp at h
 obtain _ | ⟨ac,l⟩:=l
 .simp at h
 obtain _ | ⟨ba,l⟩:=l
 .simp at h
 obtain _ | ⟨O,l⟩:=l
 .simp at h
 obtain _ | ⟨bc,l⟩:=l
 .simp at h
 obtain _ | ⟨ae,l⟩:=l
 .simp at h
 obtain _ | ⟨au,l⟩:=l
 .simp at h
 obtain _ | ⟨b8,l⟩:=l
 .simp at h
 obtain _ | ⟨ab,l⟩:=l
 .simp at h
 obtain _ | ⟨Z,l⟩:=l
 .simp at h
 obtain _ | ⟨V,l⟩:=l
 .simp at h
 obtain _ | ⟨bf,l⟩:=l
 .simp at h
 obtain _ | ⟨an,l⟩:=l
 .simp at h
 obtain _ | ⟨a9,l⟩:=l
 .simp at h
 obtain _ | ⟨av,l⟩:=l
 .simp at h
 obtain _ | ⟨ah,l⟩:=l
 .simp at h
 obtain _ | ⟨bd,l⟩:=l
 .simp at h
 obtain _ | ⟨aa,l⟩:=l
 .simp at h
 obtain _ | ⟨bg,l⟩:=l
 .simp at h
 obtain _ | ⟨aw,l⟩:=l
 .simp at h
 obtain _ | ⟨a8,l⟩:=l
 .simp at h
 obtain _ | ⟨ap,l⟩:=l
 .simp at h
 obtain _ | ⟨y,l⟩:=l
 .exact⟨x0,x1,x2,x3,x4,x5,x6,x7,x8,x9,aj,b3,a0,b4,ak,E,az,ag,a2,al,Q,W,ax,b5,ao,ai,a3,J,a5,U,a1,a6,aq,a7,a4,ad,ay,ac,ba,O,bc,ae,au,b8,ab,Z,V,bf,an,a9,av,ah,bd,aa,bg,aw,a8,ap,rfl⟩
 .simp at h
def Z8(aL:List Nat)(inn first last len:Nat):List Value:=[.agg ⟨K12 aL⟩,.int .u32 (inn:Int),.int .i64 (first:Int),.int .u32 (last:Int),.int .i64 (len:Int)]
theorem J25:∀ l:List Nat,(K12 l).all M4=true
 | []=>rfl
 | x :: l=>J25 l
theorem V64{aL:List Nat}{N:Nat}(hN:N<=6)(hL:NbL aL N){inn last first len:Nat}(hi:inn<2^N)(W:last<2^N)(hf:first<100)(h1:1<=len)(J:len<=100)
  (w:World)(hg:GlW w)(Q:Exit->Act->World->Prop)(rest:Code)
  (hk:∀(a:Act)(w':World)(B0 o0 S os cs:Nat),a.defers=[]->a.tmps.size=58->a.tmps.getD 2 undef = .int .i64 (first:Int)->a.tmps.getD 5 undef = .pointer (some ⟨B0,o0,none⟩)->a.tmps.getD 11 undef = .slice (some ⟨S,os,none⟩) len cs ->
   (∀ u x:Nat,aL[u]? = some x->w'.cell? ⟨B0,o0+u,none⟩=some (.int .u32 (x:Int)))->(∀ i,i<len->w'.cell? ⟨S,os+i,none⟩=some (.int .u32 (U5 aL inn last i:Int)))->GlW w'->RowKit.Below w.heap.size w w' ->
   B0<w'.heap.size->S<w'.heap.size->rest.wpIn Fence.wide 5 Tryz.prog Q a w'):
  (Code.seq q0 (.seq q1 (.seq q2 rest))).wpIn Fence.wide 5 Tryz.prog Q { tmps:=(Z8 aL inn first last len).toArray++fN (58-(Z8 aL inn first last len).toArray.size) undef,defers:=[] } w:=by
 have E:=J59 hN hL hi W hf h1 J .leaf 0;rw[<- e37,Z24] at E;have hn:58<=2^6:=by decide
 have a5:(Z8 aL inn first last len).length<=58:=by show 5<=58;decide
 have wl:WF 6 (.leaf:K0 Value):=trivial;have w0:WF 6 (R17 6 (Z8 aL inn first last len) 0 .leaf):=Y19 6 _ 0 .leaf wl;obtain⟨T1,H1,n1,r1,w1,k1⟩:=B47 mixed hn c0 o0 w0 E;obtain⟨T2,H2,n2,r2,w2,k2⟩:=B47 mixed hn c1 o1 w1 r1;obtain⟨T3,H3,n3,r3,w3,k3⟩:=B47 mixed hn c2 o2 w2 r2;have er:G14 Tryz.prog R61 False (fun v H' nx'=>∃ S s,v = .tuple ⟨[.pointer (some ⟨0,0,none⟩),.slice (some ⟨S,0,none⟩) len len,.int .i64 (first:Int)]⟩/\J0 H' 0=some (.cells (K12 aL) 0)/\J0 H' S=some (.cells (K12 (C12 aL inn last len)) s)/\0<nx'/\S<nx') T3 H3 n3 =
   ∃ S s,Value.tuple ⟨[(tg T3 5).getD undef,(tg T3 11).getD undef,(tg T3 2).getD undef]⟩ = .tuple ⟨[.pointer (some ⟨0,0,none⟩),.slice (some ⟨S,0,none⟩) len len,.int .i64 (first:Int)]⟩/\J0 H3 0=some (.cells (K12 aL) 0)/\J0 H3 S=some (.cells (K12 (C12 aL inn last len)) s)/\0<n3/\S<n3:=by
  unfold G14 R61;simp only[W24,G2,Y5];have es:∀ i,ev T3 (.s i)=(tg T3 i).getD undef:=fun i=>by
   show tgK T3 i (id undef) id=_;rw[J11];cases tg T3 i<;>rfl
  rw[es,es,es]
  rfl
 rw[er] at r3;obtain⟨S,s,et,g0,gS,a0,Z⟩:=r3;simp only[Value.tuple.injEq,Array.mk.injEq,fM,and_true] at et;obtain⟨f5,a4,f2⟩:=et;have V:VL (fun _=>none) (Z8 aL inn first last len) (Z8 aL inn first last len) := .cons (VR.agg' (J10 _ _ (J25 aL))) (.cons (.int _ _) (.cons (.int _ _) (.cons (.int _ _) (.cons (.int _ _) .nil))));refine wpIn_seq (wpIn_wide.2 (k1 (fun _=>none) _ w _ (W32 V hn a5) (In.start w hg).hr fun F1 a1 W1 t1 p1 d1 => ?_));refine wpIn_seq (wpIn_wide.2 (k2 F1 a1 W1 _ t1 p1.hr fun F2 a2 W2 t2 p2 d2 => ?_));refine wpIn_seq (wpIn_wide.2 (k3 F2 a2 W2 _ t2 p2.hr fun F3 a3 W3 t3 p3 d3 => ?_));have p:=(p1.trans p2).trans p3;have v2:=t3.get 2 (by decide);have v5:=t3.get 5 (by decide);have U:=t3.get 11 (by decide);rw[f2] at v2;rw[f5] at v5;rw[a4] at U;obtain⟨_,t,hF,e5⟩:=v5.ptr_inv;obtain⟨_,tt,cc,O,a6,_⟩:=U.slice_inv;have S0:Sl H3 n3 (some ⟨0,0,none⟩) (K12 aL):=fun i u hu=>⟨0,0,K12 aL,rfl,a0,by simp[Q5,g0,V3.row],by simpa using hu⟩
 have S1:Sl H3 n3 (some ⟨S,0,none⟩) (K12 (C12 aL inn last len)):=fun i u hu=>⟨S,0,K12 (C12 aL inn last len),rfl,Z,by simp[Q5,gS,V3.row],by simpa using hu⟩
 have hb:RowKit.Below w.heap.size w W3:=⟨p.os,p.tape,p.output,p.size,fun b hb=>p.frame b hb fun⟨i,_,_,hi,_⟩=>by simp at hi⟩
 refine hk a3 W3 t.blk (t.base+0) tt.blk (tt.base+0) cc (by rw[d3,d2,d1]) t3.size ?_ e5 a6 (fun u x hx => ?_) (fun i hi => ?_) p3.hr.gl.1 hb (W40 p3.hr hF S0 (by rw[E1,hL.len];decide)) (W40 p3.hr O S1 (by rw[E1,G45];omega))
 .generalize a3.tmps.getD 2 undef=z at v2
  cases v2;rfl
 .obtain⟨v0,c0,r0⟩:=U23 p3.hr hF S0 (Q3 hx)
  cases r0;exact c0
 .obtain⟨v0,c0,r0⟩:=U23 p3.hr O S1 (Q3 (G44 hi))
  cases r0;exact c0
end
end Go.Proofs.YtoiioigihocgbaaGreatDoor
namespace Go.Clo
section
variable {A:Nat->Nat->Prop} {P Q:Nat->Prop} {u v w:Nat}
inductive V9 (A:Nat->Nat->Prop) (P:Nat->Prop):Nat->Nat->Prop
 | one {u w:Nat}:A u w->V9 A P u w
 | more {u x w:Nat}:A u x->P x->V9 A P x w->V9 A P u w
theorem V9.mono(h:∀ x,P x->Q x)(r:V9 A P u w):V9 A Q u w:=by
 induction r with
 | one h1=>exact .one h1
 | more h1 h2 _ ih=>exact .more h1 (h _ h2) ih
theorem V9.trans{x:Nat}(r:V9 A P u x)(hx:P x)(s:V9 A P x w):V9 A P u w:=by
 induction r with
 | one h1=>exact .more h1 hx s
 | more h1 h2 _ ih=>exact .more h1 h2 (ih hx s)
theorem V9.symm(hA:∀ a b,A a b->A b a)(r:V9 A P u w):V9 A P w u:=by
 induction r with
 | one h1=>exact .one (hA _ _ h1)
 | more h1 h2 _ ih=>exact ih.trans h2 (.one (hA _ _ h1))
end
section
variable {L M:List Nat} {a b e f x y z:Nat}
def N10(es:List Nat)(a b:Nat):Prop:=a≠b/\∃ e ∈ es,e.testBit a=true/\e.testBit b=true
theorem N10.symm{es:List Nat}{a b:Nat}(h:N10 es a b):N10 es b a:=⟨h.1.symm,by obtain⟨e,h1,h2,h3⟩:=h.2;exact⟨e,h1,h3,h2⟩⟩
def Q21(es:List Nat)(v:Nat):Prop:=∃ e ∈ es,e.testBit v=true
theorem N10.cov{es:List Nat}(h:N10 es a b):Q21 es a:=by obtain⟨e,h1,h2,h3⟩:=h.2;exact⟨e,h1,h2⟩
def PEl(es:List Nat):List Nat->Prop
 | []=>True
 | v :: r=>(Q21 es v->∃ e ∈ es,e.testBit v=true/\∀ w ∈ r,N10 es v w->e.testBit w=true)/\PEl es r
def PE(es:List Nat):Prop:=∃ l:List Nat,(∀ v,Q21 es v->v ∈ l)/\PEl es l
section
variable {L:List Nat} {e x x' v:Nat} (hx:L[e]? = some x) (hv:x.testBit v=true) (hu:∀(i z:Nat),L[i]? = some z->z.testBit v=true->i=e) (hx':∀ w,x'.testBit w=true<->x.testBit w=true/\w≠v)
include hx hv hu hx'
end
theorem Z51{es:List Nat}:∀ {l:List Nat},PEl es l->∀ {Q:Nat->Prop},(∀ q,Q q->q ∈ l)->(∃ q,Q q)->(∀ q,Q q->Q21 es q)->(∀ a b,Q a->Q b->a≠b->N10 es a b)->∃ e ∈ es,∀ q,Q q->e.testBit q=true
 | [],_,Q,h1,⟨q,hq⟩,_,_=>absurd (h1 q hq) (by simp)
 | v :: r,g,Q,h1,hx,hc,h2=>by
  by_cases hv:Q v
  .obtain⟨e,g1,g2,g3⟩:=g.1 (hc v hv)
   refine⟨e,g1,fun q hq => ?_⟩
   by_cases e':q=v
   .rw[e'];exact g2
   .rcases aU.1 (h1 q hq) with h4 | h4
    .exact absurd h4 e'
    .exact g3 q h4 (h2 v q hv hq (fun e=>e' e.symm))
  .refine Z51 g.2 (fun q hq => ?_) hx hc h2
   rcases aU.1 (h1 q hq) with h4 | h4
   .subst h4;exact absurd hq hv
   .exact h4
def Sim(A:Nat->Nat->Prop)(W:List Nat)(v:Nat):Prop:=∀ a ∈ W,∀ b ∈ W,a≠b->A v a->A v b->A a b
def PEO(A:Nat->Nat->Prop):List Nat->Prop
 | []=>True
 | v :: r=>Sim A r v/\PEO A r
theorem PEO.filter{A:Nat->Nat->Prop}(p:Nat->Bool):∀ {l:List Nat},PEO A l->PEO A (l.filter p)
 | [],_=>trivial
 | v :: r,h=>by
  rw[List.filter_cons]
  split
  .exact⟨fun a ha b hb=>h.1 a (dA.1 ha).1 b (dA.1 hb).1,PEO.filter p h.2⟩
  .exact PEO.filter p h.2
theorem PEl.peo{es:List Nat}:∀ {l:List Nat},PEl es l->PEO (N10 es) l
 | [],_=>trivial
 | v :: r,h=>⟨fun a ha b hb E h1 h2=>by
   obtain⟨e,g1,g2,g3⟩:=h.1 h1.cov;exact⟨E,e,g1,g3 a ha h1,g3 b hb h2⟩,PEl.peo h.2⟩
end
section
variable {A:Nat->Nat->Prop} {P:Nat->Prop} {a b f n:Nat}
structure IsW (A:Nat->Nat->Prop) (P:Nat->Prop) (a b:Nat) (l:List Nat):Prop where
 len:2<=l.length
 first:l[0]? = some a
 last:∀(i:Nat),i+1=l.length->l[i]? = some b
 step:∀(i x y:Nat),l[i]? = some x->l[i+1]? = some y->A x y
 inn:∀(i x:Nat),l[i]? = some x->0<i->i+1<l.length->P x
theorem V9.walk(h:V9 A P a b):∃ l,IsW A P a b l:=by
 induction h with
 | @one u w h1=>
  refine⟨[u,w],by simp,rfl,fun i hi => ?_,fun i x y hx hy => ?_,fun i x hx h0 h1 => ?_⟩
  .have:i=1:=by simp at hi;omega
   subst this;rfl
  .rcases i with _ | i
   .simp at hx hy;subst hx;subst hy;exact h1
   .simp at hy
  .simp at h1;omega
 | @more u x w h1 h2 _ ih=>
  obtain⟨l,hl⟩:=ih;have h3:=hl.len;refine⟨u :: l,by simp;omega,rfl,fun i hi => ?_,fun i y z hy hz => ?_,fun i y hy h0 hi => ?_⟩
  .rcases i with _ | i
   .simp at hi;subst hi;simp at h3
   .rw[dK];exact hl.last i (by simpa using hi)
  .rcases i with _ | i
   .rw[dK,hl.first] at hz
    simp at hy;cases hz;subst hy;exact h1
   .rw[dK] at hy hz;exact hl.step i y z hy hz
  .rcases i with _ | i
   .omega
   .rw[dK] at hy
    rcases i with _ | i
    .rw[hl.first] at hy;cases hy;exact h2
    .exact hl.inn (i+1) y hy (by omega) (by simpa using hi)
theorem J63{p:List Nat->Prop}:∀(n:Nat) (l:List Nat),l.length<=n->p l->∃ l,p l/\∀ l',p l'->l.length<=l'.length
 | 0,l,h,hp=>⟨l,hp,fun l' _=>by omega⟩
 | n+1,l,h,hp=>by
  by_cases hx:∃ l',p l'/\l'.length<l.length
  .obtain⟨l',h1,h2⟩:=hx
   exact J63 n l' (by omega) h1
  .exact⟨l,hp,fun l' h'=>aI fun hn=>hx ⟨l',h',by omega⟩⟩
theorem B73{l:List Nat}{i k:Nat}(hi:i<l.length)(hk:i<k)(p:Nat):(l.take (i+1)++l.drop k)[p]? = if p<=i then l[p]? else l[k+(p-(i+1))]? := by
 have h1:(l.take (i+1)).length=i+1:=by rw[cK];omega
 by_cases h:p<=i
 .rw[if_pos h,bQ (by omega),aX,if_pos (by omega)]
 .rw[if_neg h,bS (by omega),h1,dB]
theorem IsW.cut{l:List Nat}(h:IsW A P a b l){i k:Nat}(hi:i<l.length)(Q:i+1<k)(hk:k<=l.length)(h1:∀ x y,l[i]? = some x->l[k]? = some y->A x y)
  (h2:k=l.length->l[i]? = some b)(h3:2<=i+1+(l.length-k)):IsW A P a b (l.take (i+1)++l.drop k):=by
 have hg:=B73 hi (show i<k by omega);have O:(l.take (i+1)++l.drop k).length=i+1+(l.length-k):=by rw[bH,cK,List.length_drop];omega
 refine⟨by omega,?_,fun p hp => ?_,fun p x y hx hy => ?_,fun p x hx h0 hp => ?_⟩
 .rw[hg,if_pos (Nat.zero_le _)];exact h.first
 .rw[hg]
  by_cases E:p<=i
  .rw[if_pos E]
   obtain rfl:p=i:=by omega
   exact h2 (by omega)
  .rw[if_neg E];exact h.last _ (by omega)
 .rw[hg] at hx hy
  by_cases E:p+1<=i
  .rw[if_pos (by omega)] at hx;rw[if_pos E] at hy;exact h.step p x y hx hy
  .rw[if_neg E] at hy
   by_cases J:p<=i
   .rw[if_pos J] at hx
    obtain rfl:p=i:=by omega
    exact h1 x y hx (by rw[show k+(p+1-(p+1))=k by omega] at hy;exact hy)
   .rw[if_neg J] at hx
    rw[show k+(p+1-(i+1))=k+(p-(i+1))+1 by omega] at hy;exact h.step _ x y hx hy
 .rw[hg] at hx
  by_cases E:p<=i
  .rw[if_pos E] at hx;exact h.inn p x hx h0 (by omega)
  .rw[if_neg E] at hx;exact h.inn _ x hx (by omega) (by omega)
def ChP(A:Nat->Nat->Prop)(l:List Nat):Prop:=∀(i j x y:Nat),i<j->l[i]? = some x->l[j]? = some y->x≠y/\(A x y<->i+1=j)
theorem V9.chordless(h:V9 A P a b)(J:a≠b):∃ l,IsW A P a b l/\ChP A l:=by
 obtain⟨l0,h0⟩:=h.walk;obtain⟨l,hl,hm⟩:=J63 l0.length l0 (aD _) h0;refine⟨l,hl,fun i j x y O hx hy => ?_⟩;have hj:j<l.length:=(aJ.1 hy).1;have E:=fun k (hk:k<=l.length) (hik:i+1<k)=>(show(l.take (i+1)++l.drop k).length=i+1+(l.length-k) by rw[bH,cK,List.length_drop];omega)
 constructor
 .rintro rfl
  have h3:2<=i+1+(l.length-(j+1)):=by
   by_cases hc:i=0/\j+1=l.length
   .obtain⟨rfl,h5⟩:=hc
    have e1:=hl.first;have e2:=hl.last j h5;rw[hx] at e1;rw[hy] at e2
    cases e1;cases e2;exact absurd rfl J
   .omega
  have:=hm _ (hl.cut (i:=i) (k:=j+1) (by omega) (by omega) (by omega) (fun x' y' e1 e2=>by
   rw[hx] at e1;cases e1;exact hl.step j _ _ hy e2) (fun e=>by rw[hx,<- hy];exact hl.last j e) h3)
  rw[E _ (by omega) (by omega)] at this;omega
 .constructor
  .intro hA
   refine aI fun Q => ?_
   have:=hm _ (hl.cut (i:=i) (k:=j) (by omega) (by omega) (by omega) (fun x' y' e1 e2=>by
    rw[hx] at e1;cases e1;rw[hy] at e2;cases e2;exact hA) (fun e=>by omega) (by omega))
   rw[E _ (by omega) (by omega)] at this;omega
  .rintro rfl
   exact hl.step i x y hx hy
structure D48 (A:Nat->Nat->Prop) (n f:Nat) (l:List Nat):Prop where
 len:3<=l.length
 ch:ChP A l
 lt:∀(i x:Nat),l[i]? = some x->x<n
 ends:∀(i x:Nat),l[i]? = some x->(x<f<->i=0\/i+1=l.length)
def FOk(A:Nat->Nat->Prop)(p:List Nat)(v:Nat):Prop:=∀(i x:Nat),p[i]? = some x->x≠v/\(A x v<->i+1=p.length)
inductive U25 (A:Nat->Nat->Prop) (n f:Nat):List Nat->Prop
 | last {p:List Nat} {v:Nat}:FOk A p v->v<n->v<f->1<p.length->U25 A n f p
 | more {p:List Nat} {v:Nat}:FOk A p v->v<n->(p.length=0->v<f)->(p.length=1->f<=v)->¬ (1<p.length/\v<f)->U25 A n f (p++[v])->U25 A n f p
theorem B61{A:Nat->Nat->Prop}{n f:Nat}{l:List Nat}(h:D48 A n f l):∀ d i,i+d+1=l.length->U25 A n f (l.take i)
 | d,i,hi=>by
  have h3:=h.len;obtain⟨v,hv⟩:∃ v,l[i]? = some v:=⟨_,aE (by omega)⟩
  have J:(l.take i).length=i:=by rw[cK];omega
  have E:FOk A (l.take i) v:=fun q x hx=>by
   rw[aX] at hx
   split at hx
   .rename_i hq
    rw[J];exact h.ch q i x v hq hx hv
   .cases hx
  have he:=h.ends i v hv
  cases d with
  | zero=>exact .last E (h.lt i v hv) (he.2 (.inr (by omega))) (by omega)
  | succ d=>
   refine .more E (h.lt i v hv) (fun e=>he.2 (.inl (by omega))) (fun e => ?_) (fun⟨e1,e2⟩ => ?_) ?_
   .have:¬ v<f:=fun e'=>by have:=he.1 e';omega
    omega
   .have:=he.1 e2;omega
   .have e:l.take i++[v]=l.take (i+1):=by rw[List.take_add_one,hv];rfl
    rw[e];exact B61 h d (i+1) (by omega)
theorem G74{p:List Nat}(h:U25 A n f p):ChP A p->(∀(i x:Nat),p[i]? = some x->x<n/\(x<f<->i=0))->∃ l,D48 A n f l:=by
 have app:∀(p:List Nat) (v i x:Nat),(p++[v])[i]? = some x->(i<p.length/\p[i]? = some x)\/(i=p.length/\x=v):=fun p v i x hx=>by
  by_cases hi:i<p.length
  .rw[bQ hi] at hx;exact .inl ⟨hi,hx⟩
  .rw[bS (by omega)] at hx
   have:i=p.length:=by
    rcases aW p.length i with h | h
    .rw[aT (by simp;omega)] at hx;cases hx
    .omega
   subst this;simp at hx;exact .inr ⟨rfl,hx.symm⟩
 have J:∀ {p:List Nat} {v:Nat},ChP A p->FOk A p v->ChP A (p++[v]):=fun {p v} hc E i j x y O hx hy=>by
  rcases app p v j y hy with ⟨h1,h2⟩ | ⟨rfl,rfl⟩
  .rcases app p v i x hx with ⟨h3,h4⟩ | ⟨rfl,rfl⟩
   .exact hc i j x y O h4 h2
   .omega
  .rcases app p _ i x hx with ⟨h3,h4⟩ | ⟨h3,_⟩
   .exact E i x h4
   .omega
 induction h with
 | @last p v E hn hf hl=>
  intro hc hp;refine⟨p++[v],by simp;omega,J hc E,fun i x hx => ?_,fun i x hx => ?_⟩
  .rcases app p v i x hx with ⟨h1,h2⟩ | ⟨_,rfl⟩
   .exact(hp i x h2).1
   .exact hn
  .rw[bH,List.length_singleton]
   rcases app p v i x hx with ⟨h1,h2⟩ | ⟨rfl,rfl⟩
   .rw[(hp i x h2).2];omega
   .exact⟨fun _ => .inr rfl,fun _=>hf⟩
 | @more p v E hn h0 h1 h2 _ ih=>
  intro hc hp;refine ih (J hc E) fun i x hx => ?_
  rcases app p v i x hx with ⟨h1,h2⟩ | ⟨rfl,rfl⟩
  .exact hp i x h2
  .exact⟨hn,by omega⟩
theorem V45:U25 A n f []<->∃ l,D48 A n f l:=by
 constructor
 .exact fun h=>G74 h (fun i j x y _ hx _=>by simp at hx) (fun i x hx=>by simp at hx)
 .rintro⟨l,h⟩
  have h3:=h.len;exact B61 h (l.length-1) 0 (by omega)
def R52(es:List Nat)(f:Nat):Prop:=∃ a b c,a<b/\b<c/\c<f/\N10 es a c/\N10 es b c/\¬ N10 es a b
end
def Chd(A:Nat->Nat->Prop):Prop:=∀ v u w,A v u->A v w->u≠w->¬ A u w->¬ V9 A (fun x=>(¬ A v x/\x≠v)\/x=u\/x=w) u w
section
variable {A:Nat->Nat->Prop} (hA:∀ a b,A a b->A b a) (hI:∀ a,¬ A a a)
include hA hI
theorem Y73{l:List Nat}(hl:PEO A l)(O:∀ a b,A a b->a ∈ l):Chd A:=by
 intro v u w hu hw V hn r;obtain⟨p,hp,hc⟩:=r.chordless V;have a6:3<=p.length:=by
  refine aI fun h => ?_
  have h2:=hp.len;exact hn (hp.step 0 u w hp.first (hp.last 1 (by omega)))
 have a0:u≠v:=fun e=>hI v (by rw[e] at hu;exact hu)
 have W:w≠v:=fun e=>hI v (by rw[e] at hw;exact hw)
 have U:∀ i x,p[i]? = some x->0<i->i+1<p.length->¬ A v x/\x≠v:=fun i x hx h0 h1=>by
  rcases hp.inn i x hx h0 h1 with h | rfl | rfl
  .exact h
  .exact absurd rfl (hc 0 i _ _ h0 hp.first hx).1
  .exact absurd rfl (hc i (p.length-1) _ _ (by omega) hx (hp.last (p.length-1) (by omega))).1
 have a5:∀ i x,p[i]? = some x->x≠v:=fun i x hx=>by
  by_cases h0:i=0
  .subst h0;rw[hp.first] at hx;cases hx;exact a0
  by_cases h1:i+1=p.length
  .rw[hp.last i h1] at hx;cases hx;exact W
  .have:=(aJ.1 hx).1
   exact(U i x hx (by omega) (by omega)).2
 have get:∀ i,i<p.length->∃ y,p[i]? = some y:=fun i h=>⟨_,aE h⟩
 have Z:∀ i x,p[i]? = some x->x ∈ l:=fun i x hx=>by
  have hi:=(aJ.1 hx).1
  by_cases h0:i=0
  .subst h0;rw[hp.first] at hx;cases hx;exact O _ _ (hA _ _ hu)
  .obtain⟨j,rfl⟩:∃ j,i=j+1:=⟨i-1,by omega⟩
   obtain⟨y,hy⟩:=get j (by omega);exact O _ _ (hA _ _ (hp.step j _ _ hy hx))
 have hP:=PEO.filter (fun x=>decide (x=v\/x ∈ p)) hl;have hm:∀ x,x ∈ l.filter (fun x=>decide (x=v\/x ∈ p))<->x=v\/x ∈ p:=fun x=>by
  rw[dA,decide_eq_true_eq]
  constructor
  .exact fun h=>h.2
  .rintro (rfl | h)
   .exact⟨O _ _ hu,.inl rfl⟩
   .obtain⟨i,hi⟩:=cH h
    exact⟨Z i x hi,.inr h⟩
 generalize l.filter (fun x=>decide (x=v\/x ∈ p))=L at hP hm
 cases L with
 | nil=>exact absurd ((hm v).2 (.inl rfl)) (by simp)
 | cons x r=>
  have hr:∀ y,(y=v\/y ∈ p)->y≠x->y ∈ r:=fun y hy a4=>by
   rcases aU.1 ((hm y).2 hy) with h | h
   .exact absurd h a4
   .exact h
  have mem:∀ {i y:Nat},p[i]? = some y->y=v\/y ∈ p:=fun h => .inr (aH h)
  have Q:∀ {a b:Nat},A a b->b≠a:=fun h e=>hI _ (by rw[e] at h;exact h)
  have E:=hP.1;have gl:=hp.last (p.length-1) (by omega);rcases (hm x).1 (by simp) with rfl | hx
  .exact hn (E u (hr u (mem hp.first) a0) w (hr w (mem gl) W) V hu hw)
  .obtain⟨i,hi⟩:=cH hx
   have a7:=(aJ.1 hi).1;have a3:=a5 i x hi
   by_cases h0:i=0
   .subst h0
    rw[hp.first] at hi;cases hi;obtain⟨y,h1⟩:=get 1 (by omega);have J:=U 1 _ h1 (by omega) (by omega);have ha:=hp.step 0 _ _ hp.first h1;exact J.1 (E v (hr v (.inl rfl) a3.symm) _ (hr _ (mem h1) (Q ha)) J.2.symm (hA _ _ hu) ha)
   by_cases h1:i+1=p.length
   .rw[hp.last i h1] at hi;cases hi
    obtain⟨y,h2⟩:=get (i-1) (by omega);have J:=U (i-1) _ h2 (by omega) (by omega);have ha:=hA _ _ (hp.step (i-1) _ _ h2 (by rw[show i-1+1=i by omega];exact hp.last i h1));exact J.1 (E v (hr v (.inl rfl) a3.symm) _ (hr _ (mem h2) (Q ha)) J.2.symm (hA _ _ hw) ha)
   .obtain⟨y,h2⟩:=get (i-1) (by omega)
    obtain⟨z,h3⟩:=get (i+1) (by omega);have c:=hc (i-1) (i+1) _ _ (by omega) h2 h3;have a1:=hA _ _ (hp.step (i-1) _ _ h2 (by rw[show i-1+1=i by omega];exact hi));have a2:=hp.step i _ _ hi h3;have:=c.2.1 (E _ (hr _ (mem h2) (Q a1)) _ (hr _ (mem h3) (Q a2)) c.1 a1 a2);omega
theorem G67(hC:Chd A):∀(n:Nat) (W:List Nat),W.length<=n->∀ {K:Nat->Prop},(∀ a b,K a->K b->a ∈ W->b ∈ W->a≠b->A a b)->(∃ x ∈ W,¬ K x)->∃ v ∈ W,¬ K v/\Sim A W v
 | 0,W,hl,K,_,⟨x,hx,_⟩=>by
  obtain rfl:W=[]:=dT.1 (by omega);simp at hx
 | n+1,W,hl,K,hK,hx=>by
  have U:∀ a b,a ∈ W->b ∈ W->b≠a->¬ A a b->∃ v ∈ W,v≠a/\¬ A a v/\Sim A W v:=by
   intro a b ha hb E O
   let Q:Nat->Prop:=fun x=>x ∈ W/\¬ A a x/\x≠a
   let C:Nat->Prop:=fun x=>Q x/\(x=b\/V9 A Q b x)
   let S:Nat->Prop:=fun y=>y ∈ W/\A a y/\∃ c,C c/\A c y
   have a2:Q b:=⟨hb,O,E⟩
   have step:∀ v x,x ∈ W->C v->A v x->C x\/S x:=fun v x a3 hv J=>by
    by_cases h:A a x
    .exact .inr ⟨a3,h,v,hv,J⟩
    .have a9:Q x:=⟨a3,h,fun e=>hv.1.2.1 (by rw[<- e];exact hA _ _ J)⟩
     refine .inl ⟨a9,.inr ?_⟩;rcases hv.2 with e | r
     .exact .one (by rw[<- e];exact J)
     .exact r.trans hv.1 (.one J)
   have a1:∀ c y,C c->A c y->V9 A Q y b:=fun c y hc a0=>by
    rcases hc.2 with e | r
    .exact .one (by rw[<- e];exact hA _ _ a0)
    .exact .more (hA _ _ a0) hc.1 (r.symm hA)
   have a4:∀ y z,S y->S z->y≠z->A y z:=fun y z hy hz a7=>aI fun hn=>by
    obtain⟨c1,k1,k2⟩:=hy.2.2;obtain⟨c2,k3,k4⟩:=hz.2.2;refine hC a y z hy.2.1 hz.2.1 a7 hn ?_;exact(((a1 c1 y k1 k2).trans a2 ((a1 c2 z k3 k4).symm hA))).mono fun x hx => .inl hx.2
   have ab:(W.filter fun x=>@decide (C x\/S x) (fJ _)).length<W.length:=
    fG.2 ⟨a,ha,fun h=>by
     rcases @of_decide_eq_true _ (fJ _) h with h | h
     .exact h.1.2.2 rfl
     .exact hI a h.2.1⟩
   have hm:∀ x,x ∈ (W.filter fun x=>@decide (C x\/S x) (fJ _))<->x ∈ W/\(C x\/S x):=fun x=>by
    rw[dA,@decide_eq_true_eq _ (fJ _)]
   obtain⟨v,h1,h2,h3⟩:=G67 hC n _ (by omega) (K:=S) (fun y z hy hz _ _=>a4 y z hy hz) ⟨b,(hm b).2 ⟨hb,.inl ⟨a2,.inl rfl⟩⟩,fun h=>O h.2.1⟩;have hv:=((hm v).1 h1).2.resolve_right h2;exact⟨v,((hm v).1 h1).1,hv.1.2.2,hv.1.2.1,fun x hx y hy a6 k1 k2=>h3 x ((hm x).2 ⟨hx,step v x hx hv k1⟩) y ((hm y).2 ⟨hy,step v y hy hv k2⟩) a6 k1 k2⟩
  by_cases h1:∃ a,a ∈ W/\K a/\∃ b ∈ W,b≠a/\¬ A a b
  .obtain⟨a,ha,aa,b,hb,E,hn⟩:=h1
   obtain⟨v,hv,Z,V,hs⟩:=U a b ha hb E hn;exact⟨v,hv,fun h=>V (hK a v aa h ha hv (eT Z)),hs⟩
  by_cases h2:∃ a,a ∈ W/\∃ b ∈ W,b≠a/\¬ A a b
  .obtain⟨a,ha,b,hb,E,hn⟩:=h2
   obtain⟨v,hv,Z,V,hs⟩:=U a b ha hb E hn;exact⟨v,hv,fun h=>h1 ⟨v,hv,h,a,ha,eT Z,fun g=>V (hA _ _ g)⟩,hs⟩
  .obtain⟨x,hx,a5⟩:=hx
   exact⟨x,hx,a5,fun a ha b hb a8 _ _=>aI fun hn=>h2 ⟨a,ha,b,hb,eT a8,hn⟩⟩
theorem N60(hC:Chd A):∀(n:Nat) (W:List Nat),W.length<=n->∃ l:List Nat,(∀ x,x ∈ l<->x ∈ W)/\PEO A l
 | 0,W,hl=>by
  obtain rfl:W=[]:=dT.1 (by omega);exact⟨[],fun x=>Iff.rfl,trivial⟩
 | n+1,W,hl=>by
  cases hW:W with
  | nil=>exact⟨[],fun x=>Iff.rfl,trivial⟩
  | cons y W'=>
   rw[<- hW];obtain⟨v,hv,_,hs⟩:=G67 hA hI hC W.length W (aD _) (K:=fun _=>False) (fun a b h=>h.elim) ⟨y,by rw[hW];simp,fun h=>h⟩;have E:(W.filter fun x=>decide (x≠v)).length<W.length:=fG.2 ⟨v,hv,by simp⟩;obtain⟨l,h1,h2⟩:=N60 hC n (W.filter fun x=>decide (x≠v)) (by omega);have hm:∀ x,x ∈ l<->x ∈ W/\x≠v:=fun x=>by rw[h1,dA,decide_eq_true_eq]
   refine⟨v :: l,fun x => ?_,fun a ha b hb=>hs a ((hm a).1 ha).1 b ((hm b).1 hb).1,h2⟩;rw[aU,hm]
   constructor
   .rintro (rfl | h)
    .exact hv
    .exact h.1
   .intro h
    by_cases e:x=v
    .exact .inl e
    .exact .inr ⟨h,e⟩
end
def Cf(es:List Nat):Prop:=∀ Q:Nat->Prop,(∃ q,Q q)->(∀ q,Q q->Q21 es q)->(∀ a b,Q a->Q b->a≠b->N10 es a b)->∃ e ∈ es,∀ q,Q q->e.testBit q=true
theorem R62{es:List Nat}(hC:Cf es):∀ {l:List Nat},PEO (N10 es) l->PEl es l
 | [],_=>trivial
 | v :: r,h=>by
  refine⟨fun hc => ?_,R62 hC h.2⟩;obtain⟨e,h1,h2⟩:=hC (fun q=>q=v\/(q ∈ r/\N10 es v q)) ⟨v,.inl rfl⟩ (fun q hq=>by
   rcases hq with rfl | hq
   .exact hc
   .exact hq.2.symm.cov) (fun a b ha hb E=>by
   rcases ha with rfl | ha
   .rcases hb with rfl | hb
    .exact absurd rfl E
    .exact hb.2
   .rcases hb with rfl | hb
    .exact ha.2.symm
    .exact h.1 a ha.1 b hb.1 E ha.2 hb.2)
  exact⟨e,h1,h2 v (.inl rfl),fun w hw ha=>h2 w (.inr ⟨hw,ha⟩)⟩
theorem V78{es:List Nat}{n:Nat}(E:∀ v,Q21 es v->v<n):PE es<->Chd (N10 es)/\Cf es:=by
 have hI:∀ a,¬ N10 es a a:=fun a h=>h.1 rfl
 constructor
 .rintro⟨l,h1,h2⟩
  exact⟨Y73 (A:=N10 es) (fun a b h=>N10.symm h) hI h2.peo fun a b h=>h1 a h.cov,fun Q hx hc ha=>Z51 h2 (fun q hq=>h1 q (hc q hq)) hx hc ha⟩
 .rintro⟨h1,h2⟩
  obtain⟨l,h3,h4⟩:=N60 (A:=N10 es) (fun a b h=>N10.symm h) hI h1 n (aY n) (by simp);exact⟨l,fun v hv=>(h3 v).2 (cW.2 (E v hv)),R62 h2 h4⟩
section
variable {to u v w within:Nat}
def Wf(A:Nat->Nat->Prop)(P:Nat->Prop)(j u w:Nat):Prop:=∃ f:Nat->Nat,f 0=u/\f j=w/\(∀ i,i<j->A (f i) (f (i+1)))/\∀ i,0<i->i<=j->P (f i)
section
variable {A:Nat->Nat->Prop} {P:Nat->Prop} {j u w:Nat}
theorem Wf.zero:Wf A P 0 u w<->u=w:=
 ⟨fun⟨f,h1,h2,_⟩=>h1.symm.trans h2,fun h=>⟨fun _=>u,rfl,h,fun i hi=>by omega,fun i h0 hi=>by omega⟩⟩
theorem Wf.snoc:Wf A P (j+1) u w<->P w/\∃ y,Wf A P j u y/\A y w:=by
 constructor
 .rintro⟨f,h1,h2,h3,h4⟩
  refine⟨?_,f j,⟨f,h1,rfl,fun i hi=>h3 i (by omega),fun i a b=>h4 i a (by omega)⟩,?_⟩
  .have:=h4 (j+1) (by omega) (aD _);rwa [h2] at this
  .have:=h3 j (by omega);rwa [h2] at this
 .rintro⟨hP,y,⟨f,h1,h2,h3,h4⟩,ha⟩
  refine⟨fun i=>if i<=j then f i else w,by simp[h1],if_neg (by omega),fun i hi => ?_,fun i h0 hi => ?_⟩
  .by_cases e:i=j
   .subst e
    simp only[aD,if_true,show ¬ (i+1<=i) by omega,if_false,h2];exact ha
   .have:i+1<=j:=by omega
    simp only[show i<=j by omega,this,if_true];exact h3 i (by omega)
  .by_cases e:i<=j
   .simp only[e,if_true];exact h4 i h0 e
   .simp only[e,if_false];exact hP
theorem Wf.cons{x:Nat}(hx:A u x)(hP:P x)(h:Wf A P j x w):Wf A P (j+1) u w:=by
 obtain⟨f,h1,h2,h3,h4⟩:=h;refine⟨fun i=>if i=0 then u else f (i-1),by simp,by simp[h2],fun i hi => ?_,fun i h0 hi => ?_⟩
 .by_cases e:i=0
  .subst e;simp[h1];exact hx
  .simp only[e,if_false,show i+1≠0 by omega]
   have:=h3 (i-1) (by omega);rwa [show i-1+1=i+1-1 by omega] at this
 .simp only[show i≠0 by omega,if_false]
  by_cases e:i=1
  .subst e;simp[h1];exact hP
  .exact h4 (i-1) (by omega) (by omega)
theorem Wf.rch:∀{j w:Nat},0<j->Wf A P j u w->V9 A P u w
 | 0,_,h,_=>by omega
 | j+1,w,_,h=>by
  obtain⟨_,y,h1,h2⟩:=Wf.snoc.1 h
  cases j with
  | zero=>obtain rfl:=Wf.zero.1 h1;exact .one h2
  | succ j=>exact(Wf.rch (by omega) h1).trans (Wf.snoc.1 h1).1 (.one h2)
theorem V9.wf(h:V9 A P u w)(hw:P w):∃ j,0<j/\Wf A P j u w:=by
 induction h with
 | one h1=>exact⟨1,by omega,Wf.cons h1 hw (Wf.zero.2 rfl)⟩
 | more h1 h2 _ ih=>
  obtain⟨j,_,hj⟩:=ih hw;exact⟨j+1,by omega,Wf.cons h1 h2 hj⟩
theorem Wf.least:∀(j:Nat),Wf A P j u w->∃ i,i<=j/\Wf A P i u w/\∀ k,k<i->¬ Wf A P k u w:=by
 intro j
 induction j using Nat.strongRecOn with
 | _ j ih=>
  intro h
  by_cases hx:∃ k,k<j/\Wf A P k u w
  .obtain⟨k,hk,E⟩:=hx
   obtain⟨i,h1,h2⟩:=ih k hk E;exact⟨i,by omega,h2⟩
  .exact⟨j,aD _,h,fun k hk g=>hx ⟨k,hk,g⟩⟩
theorem Wf.gap{s:Nat}(h:∀ x,¬ (Wf A P s u x/\∀ k,k<s->¬ Wf A P k u x)):∀ d x,¬ (Wf A P (s+d) u x/\∀ k,k<s+d->¬ Wf A P k u x)
 | 0,x,g=>h x g
 | d+1,x,⟨g1,g2⟩=>by
  obtain⟨hP,y,h1,h2⟩:=Wf.snoc.1 (show Wf A P (s+d+1) u x from g1);exact Wf.gap h d y ⟨h1,fun k hk g=>g2 (k+1) (by omega) (Wf.snoc.2 ⟨hP,y,g,h2⟩)⟩
end
section
variable {A:Nat->Nat->Prop} {aL:List Nat} {N:Nat} (hb:∀ u w,(aL.getD u 0).testBit w=true<->A u w) (hAN:∀ u w,A u w->u<N/\w<N)
include hb hAN
theorem W69(b:Nat):Q4 aL b N<2^N:=Nat.lt_pow_two_of_testBit _ fun w hw=>bN.2 fun h=>by
 obtain⟨u,_,_,h3⟩:=Y7.1 h;have:=(hAN _ _ ((hb _ _).1 h3)).2;omega
theorem V69:∀(k s E b:Nat),b<2^N->E<2^N->N<=k+(V5 N E).length ->
  (∀ x,b.testBit x=true<->Wf A (fun x=>within.testBit x=true) s u x/\∀ j,j<s->¬ Wf A (fun x=>within.testBit x=true) j u x)->(∀ x,E.testBit x=true<->∃ j,j<s/\Wf A (fun x=>within.testBit x=true) j u x) ->
  (∀ j,j<=s->¬ Wf A (fun x=>within.testBit x=true) j u to) ->
  (W84 aL N to within k E b (s+1)=0/\∀ j,¬ Wf A (fun x=>within.testBit x=true) j u to) \/
  (0<W84 aL N to within k E b (s+1)/\Wf A (fun x=>within.testBit x=true) (W84 aL N to within k E b (s+1)) u to/\∀ j,j<W84 aL N to within k E b (s+1)->¬ Wf A (fun x=>within.testBit x=true) j u to):=by
 intro k;have none:∀(s b:Nat),b=0->(∀ x,b.testBit x=true<->Wf A (fun x=>within.testBit x=true) s u x/\∀ j,j<s->¬ Wf A (fun x=>within.testBit x=true) j u x) ->
   (∀ j,j<=s->¬ Wf A (fun x=>within.testBit x=true) j u to)->∀ j,¬ Wf A (fun x=>within.testBit x=true) j u to:=by
  rintro s b rfl h1 h2 j hj;obtain⟨i,_,h3,h4⟩:=Wf.least j hj
  by_cases hi:i<=s
  .exact h2 i hi h3
  .obtain⟨d,rfl⟩:∃ d,i=s+d:=⟨i-s,by omega⟩
   exact Wf.gap (fun x g=>by have:=(h1 x).2 g;simp at this) d to ⟨h3,h4⟩
 induction k with
 | zero=>
  intro s E b h1 h2 h3 h4 h5 h6;have J:b=0:=X20 (N:=N) h1 (fun v hv=>bN.2 fun hc=>by
   obtain⟨j,hj,hw⟩:=(h5 v).1 hc;exact((h4 v).1 hv).2 j hj hw) (by have:=Q15 N E;omega)
  exact .inl ⟨rfl,none s b J h4 h6⟩
 | succ k ih=>
  intro s E b h1 h2 h3 h4 h5 h6
  by_cases J:b=0
  .exact .inl ⟨by rw[W84,if_pos J],none s b J h4 h6⟩
  have hd:∀ v,b.testBit v=true->E.testBit v=false:=fun v hv=>bN.2 fun hc=>by
   obtain⟨j,hj,hw⟩:=(h5 v).1 hc;exact((h4 v).1 hv).2 j hj hw
  have O:∀ x,(Z2 (Q4 aL b N &&& within) (E ||| b)).testBit x=true<->Wf A (fun x=>within.testBit x=true) (s+1) u x/\∀ j,j<s+1->¬ Wf A (fun x=>within.testBit x=true) j u x:=fun x=>by
   rw[N1,bI,aV,aG,aG,cJ,Bool.or_eq_false_iff]
   constructor
   .rintro⟨⟨g1,g2⟩,g3,g4⟩
    obtain⟨y,_,y2,y3⟩:=Y7.1 g1;refine⟨Wf.snoc.2 ⟨g2,y,((h4 y).1 y2).1,(hb _ _).1 y3⟩,fun j hj hw => ?_⟩;have Q:∀ j,j<s->¬ Wf A (fun x=>within.testBit x=true) j u x:=fun j hj hw=>by
     have:=(h5 x).2 ⟨j,hj,hw⟩;rw[g3] at this;cases this
    by_cases e:j=s
    .subst e
     have:=(h4 x).2 ⟨hw,Q⟩;rw[g4] at this;cases this
    .exact Q j (by omega) hw
   .rintro⟨g1,g2⟩
    obtain⟨hP,y,y1,y2⟩:=Wf.snoc.1 g1;refine⟨⟨Y7.2 ⟨y,(hAN _ _ y2).1,(h4 y).2 ⟨y1,fun j hj hw=>g2 (j+1) (by omega) (Wf.snoc.2 ⟨hP,y,hw,y2⟩)⟩,(hb _ _).2 y2⟩,hP⟩,bN.2 fun hc => ?_,bN.2 fun hc => ?_⟩
    .obtain⟨j,hj,hw⟩:=(h5 x).1 hc
     exact g2 j (by omega) hw
    .exact g2 s (by omega) ((h4 x).1 hc).1
  rw[W84,if_neg J]
  by_cases ht:(Z2 (Q4 aL b N &&& within) (E ||| b)).testBit to=true
  .rw[if_pos ht]
   exact .inr ⟨by omega,(O to).1 ht⟩
  .rw[if_neg ht]
   refine ih (s+1) (E ||| b) _ (Z6 (W37 (W69 hb hAN b))) (Z26 h2 h1) ?_ O (fun x => ?_) (fun j hj hw => ?_)
   .have:=R25 h1 J hd
    omega
   .rw[aV,cO,h5,h4]
    constructor
    .rintro (⟨j,hj,hw⟩ | h)
     .exact⟨j,by omega,hw⟩
     .exact⟨s,by omega,h.1⟩
    .rintro⟨j,hj,hw⟩
     by_cases hx:∃ i,i<s/\Wf A (fun x=>within.testBit x=true) i u x
     .exact .inl hx
     .have e:j=s:=by
       refine aI fun e=>hx ⟨j,by omega,hw⟩
      subst e;exact .inr ⟨hw,fun i hi g=>hx ⟨i,hi,g⟩⟩
   .by_cases e:j<=s
    .exact h6 j e hw
    .obtain rfl:j=s+1:=by omega
     exact ht ((O to).2 ⟨hw,fun i hi=>h6 i (by omega)⟩)
theorem D36 (hu:u<N) (hne:u≠to):
  (B75 aL N u to within=0/\∀ j,¬ Wf A (fun x=>within.testBit x=true) j u to) \/
  (0<B75 aL N u to within/\Wf A (fun x=>within.testBit x=true) (B75 aL N u to within) u to/\∀ j,j<B75 aL N u to within->¬ Wf A (fun x=>within.testBit x=true) j u to):=by
 refine V69 hb hAN (u:=u) N 0 0 (2^u) (R27 hu) (Nat.two_pow_pos N) (by omega) (fun x => ?_) (fun x => ?_) (fun j hj hw => ?_)
 .rw[Nat.testBit_two_pow,decide_eq_true_eq,Wf.zero]
  exact⟨fun h=>⟨h,fun j hj=>by omega⟩,fun h=>h.1⟩
 .rw[Nat.zero_testBit]
  exact⟨fun h=>(by cases h),fun⟨j,hj,_⟩=>(by omega)⟩
 .obtain rfl:j=0:=by omega
  exact hne (Wf.zero.1 hw)
theorem R65{d:Nat}(hu:u<N)(E:u≠to)(h1:Wf A (fun x=>within.testBit x=true) d u to)(h2:∀ j,j<d->¬ Wf A (fun x=>within.testBit x=true) j u to):B75 aL N u to within=d:=by
 rcases D36 hb hAN (within:=within) hu E with ⟨_,h⟩ | ⟨_,h3,h4⟩
 .exact absurd h1 (h d)
 .rcases Nat.lt_trichotomy (B75 aL N u to within) d with h | h | h
  .exact absurd h3 (h2 _ h)
  .exact h
  .exact absurd h1 (h4 d h)
end
def CyI(d:Nat->Nat->Nat->Nat)(T:Nat->Nat->Nat->Prop)(l:Nat):Prop:=(∀ v u w,T v u w->0<d v u w->0<l/\l<=d v u w+2)/\(0<l->∃ v u w,T v u w/\0<d v u w/\l=d v u w+2)
theorem CyI.iff{d:Nat->Nat->Nat->Nat}{T T':Nat->Nat->Nat->Prop}{l:Nat}(h:CyI d T l)(e:∀ v u w,T' v u w<->T v u w):CyI d T' l:=
 ⟨fun v u w g=>h.1 v u w ((e v u w).1 g),fun g=>by obtain⟨v,u,w,a,b⟩:=h.2 g;exact⟨v,u,w,(e v u w).2 a,b⟩⟩
theorem CyI.add{d:Nat->Nat->Nat->Nat}{T:Nat->Nat->Nat->Prop}{l:Nat}(h:CyI d T l)(v u w:Nat):CyI d (fun a b c=>T a b c\/(a=v/\b=u/\c=w)) (cyD (d v u w) l):=by
 obtain⟨h1,h2⟩:=h;unfold cyD
 split
 .rename_i hc
  refine⟨fun a b c g g2 => ?_,fun _=>⟨v,u,w,.inr ⟨rfl,rfl,rfl⟩,hc.1,rfl⟩⟩;rcases g with g | ⟨rfl,rfl,rfl⟩
  .have:=h1 a b c g g2
   omega
  .omega
 .rename_i hc
  refine⟨fun a b c g g2 => ?_,fun g=>by obtain⟨a,b,c,x,y⟩:=h2 g;exact⟨a,b,c,.inl x,y⟩⟩;rcases g with g | ⟨rfl,rfl,rfl⟩
  .exact h1 a b c g g2
  .omega
section
variable {aL:List Nat} {N:Nat}
def Cnd(aL:List Nat)(v u w:Nat):Prop:=(nbB aL v u&&nbB aL v w && !nbB aL u w)=true
theorem R63{T:Nat->Nat->Nat->Prop}{l v u:Nat}(h:CyI (fun v u w=>B75 aL N u w (D86 aL N v u w)) T l):∀ w,CyI (fun v u w=>B75 aL N u w (D86 aL N v u w)) (fun a b c=>T a b c\/(a=v/\b=u/\c<w/\Cnd aL a b c)) (cyW aL N v u l w)
 | 0=>h.iff fun a b c=>by simp
 | w+1=>by
  have ih:=R63 h (v:=v) (u:=u) w;rw[cyW]
  split
  .rename_i hc
   refine(ih.add v u w).iff fun a b c => ?_
   constructor
   .rintro (g | ⟨rfl,rfl,g,g2⟩)
    .exact .inl (.inl g)
    .by_cases e:c=w
     .exact .inr ⟨rfl,rfl,e⟩
     .exact .inl (.inr ⟨rfl,rfl,by omega,g2⟩)
   .rintro ((g | ⟨rfl,rfl,g,g2⟩) | ⟨rfl,rfl,rfl⟩)
    .exact .inl g
    .exact .inr ⟨rfl,rfl,by omega,g2⟩
    .exact .inr ⟨rfl,rfl,by omega,hc⟩
  .rename_i hc
   refine ih.iff fun a b c => ?_
   constructor
   .rintro (g | ⟨rfl,rfl,g,g2⟩)
    .exact .inl g
    .by_cases e:c=w
     .subst e;exact absurd g2 hc
     .exact .inr ⟨rfl,rfl,by omega,g2⟩
   .rintro (g | ⟨rfl,rfl,g,g2⟩)
    .exact .inl g
    .exact .inr ⟨rfl,rfl,by omega,g2⟩
theorem Z61{T:Nat->Nat->Nat->Prop}{l v:Nat}(h:CyI (fun v u w=>B75 aL N u w (D86 aL N v u w)) T l):∀ u,CyI (fun v u w=>B75 aL N u w (D86 aL N v u w)) (fun a b c=>T a b c\/(a=v/\b<u/\c<b/\Cnd aL a b c)) (cyU aL N v l u)
 | 0=>h.iff fun a b c=>by simp
 | u+1=>by
  have ih:=R63 (Z61 h (v:=v) u) (v:=v) (u:=u) u;rw[cyU];refine ih.iff fun a b c => ?_
  constructor
  .rintro (g | ⟨rfl,g1,g,g2⟩)
   .exact .inl (.inl g)
   .by_cases e:b=u
    .subst e;exact .inr ⟨rfl,rfl,g,g2⟩
    .exact .inl (.inr ⟨rfl,by omega,g,g2⟩)
  .rintro ((g | ⟨rfl,g1,g,g2⟩) | ⟨rfl,rfl,g,g2⟩)
   .exact .inl g
   .exact .inr ⟨rfl,by omega,g,g2⟩
   .exact .inr ⟨rfl,by omega,g,g2⟩
theorem J49:∀ v,CyI (fun v u w=>B75 aL N u w (D86 aL N v u w)) (fun a b c=>a<v/\b<N/\c<b/\Cnd aL a b c) (cyV aL N v)
 | 0=>⟨fun a b c g=>by have:=g.1;omega,fun h=>absurd h (Nat.lt_irrefl 0)⟩
 | v+1=>by
  have ih:=Z61 (J49 v) (v:=v) N;rw[cyV];refine ih.iff fun a b c => ?_
  constructor
  .rintro⟨g0,g1,g,g2⟩
   by_cases e:a=v
   .exact .inr ⟨e,g1,g,g2⟩
   .exact .inl ⟨by omega,g1,g,g2⟩
  .rintro (⟨g0,g1,g,g2⟩ | ⟨rfl,g1,g,g2⟩)
   .exact⟨by omega,g1,g,g2⟩
   .exact⟨by omega,g1,g,g2⟩
variable {A:Nat->Nat->Prop} (hb:∀ u w,(aL.getD u 0).testBit w=true<->A u w) (hAN:∀ u w,A u w->u<N/\w<N) (hA:∀ a b,A a b->A b a) (hI:∀ a,¬ A a a)
include hb hAN
theorem G43:Cnd aL v u w<->A v u/\A v w/\¬ A u w:=by
 unfold Cnd nbB;rw[aG,aG,cJ,bN,Ne,hb,hb,hb,and_assoc]
theorem B33{x:Nat}:(D86 aL N v u w).testBit x=true<->(x<N/\¬ A v x/\x≠v)\/x=u\/x=w:=by
 unfold D86;rw[aV,aV,N1,N1,dC,aR,aR,aR];simp only[cO,aG,cJ,decide_eq_true_eq,bN,Ne,hb]
 constructor
 .rintro ((⟨⟨h1,h2⟩,h3⟩ | h) | h)
  .exact .inl ⟨h1,h2,fun e=>h3 e.symm⟩
  .exact .inr (.inl h.symm)
  .exact .inr (.inr h.symm)
 .rintro (⟨h1,h2,h3⟩ | h | h)
  .exact .inl (.inl ⟨⟨h1,h2⟩,fun e=>h3 e.symm⟩)
  .exact .inl (.inr h.symm)
  .exact .inr h.symm
include hA
theorem E73:cyV aL N N=0<->Chd A:=by
 obtain⟨i1,i2⟩:=J49 (aL:=aL) (N:=N) N
 constructor
 .intro h0
  have E:∀ v u w,w<u->A v u->A v w->¬ A u w->¬ V9 A (fun x=>(¬ A v x/\x≠v)\/x=u\/x=w) u w:=fun v u w Q hu hw hn r=>by
   have O:∀ x,(∃ y,A x y)->((¬ A v x/\x≠v)\/x=u\/x=w)->(D86 aL N v u w).testBit x=true:=fun x ⟨y,hy⟩ h=>(B33 hb hAN).2 (by
    rcases h with h | h
    .exact .inl ⟨(hAN _ _ hy).1,h⟩
    .exact .inr h)
   have r2:V9 A (fun x=>(D86 aL N v u w).testBit x=true) u w:=by
    clear hn;generalize hG:(fun x=>(D86 aL N v u w).testBit x=true)=G;have key:∀ {a b:Nat},V9 A (fun x=>(¬ A v x/\x≠v)\/x=u\/x=w) a b->V9 A G a b:=fun r=>by
     induction r with
     | one h=>exact .one h
     | more h1 h2 _ ih=>exact .more h1 (by rw[<- hG];exact O _ ⟨_,hA _ _ h1⟩ h2) ih
    exact key r
   obtain⟨j,_,hj⟩:=r2.wf ((B33 hb hAN).2 (.inr (.inr rfl)));have J:=(hAN _ _ hu)
   rcases D36 hb hAN (within:=D86 aL N v u w) (to:=w) J.2 (by omega) with ⟨_,h⟩ | ⟨h,_⟩
   .exact h j hj
   .have:=i1 v u w ⟨J.1,J.2,Q,(G43 hb hAN).2 ⟨hu,hw,hn⟩⟩ h
    omega
  intro v u w hu hw U hn r
  by_cases h:w<u
  .exact E v u w h hu hw hn r
  .exact E v w u (by omega) hw hu (fun g=>hn (hA _ _ g)) ((r.symm hA).mono fun x hx=>by
    rcases hx with hx | hx | hx
    .exact .inl hx
    .exact .inr (.inr hx)
    .exact .inr (.inl hx))
 .intro hC
  refine aI fun h0 => ?_
  obtain⟨v,u,w,⟨g0,g1,g2,g3⟩,hd,_⟩:=i2 (by omega);obtain⟨hu,hw,hn⟩:=(G43 hb hAN).1 g3;rcases D36 hb hAN (within:=D86 aL N v u w) (to:=w) g1 (by omega) with ⟨h,_⟩ | ⟨h,h1,_⟩
  .have V:0<B75 aL N u w (D86 aL N v u w):=hd
   omega
  .refine hC v u w hu hw (by omega) hn ((Wf.rch h h1).mono fun x hx => ?_)
   rcases (B33 hb hAN).1 hx with hx | hx
   .exact .inl hx.2
   .exact .inr hx
end
end
section
variable {A:Nat->Nat->Prop} {P:Nat->Prop} {blk j k last start v x:Nat}
theorem M57{s:Nat}(hs:s<31):(Q90 s).testBit x=true<->s<x/\x<32:=by
 have h1:2^(s+1)<4294967296:=by
  have:=Nat.pow_lt_pow_right (a:=2) (by omega) (show s+1<32 by omega);omega
 have h2:0<2^(s+1):=aQ _;unfold Q90;rw[show 4294967295-(2^(s+1)-1)=2^32-((2^(s+1)-1)+1) by omega,Nat.testBit_two_pow_sub_succ (by omega),dC];simp;omega
theorem Wf.mono{Q:Nat->Prop}{u w:Nat}(h:∀ x,(∃ y,A y x)->P x->Q x)(g:Wf A P j u w):Wf A Q j u w:=by
 obtain⟨f,h1,h2,h3,h4⟩:=g;refine⟨f,h1,h2,h3,fun i h0 hi=>h _ ⟨f (i-1),?_⟩ (h4 i h0 hi)⟩;have:=h3 (i-1) (by omega);rwa [show i-1+1=i by omega] at this
theorem Wf.suffix {f:Nat->Nat} (h3:∀ i,i<j->A (f i) (f (i+1))) (h4:∀ i,0<i->i<=j->P (f i)) {i:Nat} (hi:i<=j):Wf A P (j-i) (f i) (f j):=
 ⟨fun t=>f (i+t),rfl,by show f (i+(j-i))=f j;rw[show i+(j-i)=j by omega],fun t ht=>h3 (i+t) (by omega),fun t h0 ht=>h4 (i+t) (by omega) (by omega)⟩
theorem N74(c:Nat->Nat):∃ m,∀ i,c m<=c i:=by
 have key:∀ n m,c m=n->∃ m,∀ i,c m<=c i:=fun n=>by
  induction n using Nat.strongRecOn with
  | _ n ih=>
   intro m hm
   by_cases h:∃ i,c i<n
   .obtain⟨i,hi⟩:=h
    exact ih _ hi i rfl
   .exact⟨m,fun i=>aI fun g=>h ⟨i,by omega⟩⟩
 exact key _ 0 rfl
section
variable {A:Nat->Nat->Prop} {aL:List Nat} {N:Nat} (hN:N<=6) (hb:∀ u w,(aL.getD u 0).testBit w=true<->A u w) (hAN:∀ u w,A u w->u<N/\w<N) (hA:∀ a b,A a b->A b a) (hI:∀ a,¬ A a a)
include hN hb hAN
def ExW(A:Nat->Nat->Prop)(blk start last v x:Nat):Prop:=(start<x/\x<32/\¬ (blk.testBit x=true\/A last x\/x=last))\/x=v\/x=start
theorem J38:(W87 aL blk last).testBit x=true<->blk.testBit x=true\/A last x\/x=last:=by
 unfold W87;rw[aV,aV,aR,cO,cO,decide_eq_true_eq,hb,or_assoc];exact or_congr Iff.rfl (or_congr Iff.rfl eq_comm)
theorem U50(hs:start<N):((Z2 (Q90 start) (W87 aL blk last) ||| 2^v) ||| 2^start).testBit x=true<->ExW A blk start last v x:=by
 unfold ExW;rw[aV,aV,aR,aR,N1,cO,cO,aG,cJ,<- Bool.not_eq_true,M57 (by omega),J38 hN hb hAN,decide_eq_true_eq,decide_eq_true_eq,or_assoc,and_assoc];exact or_congr Iff.rfl (or_congr eq_comm eq_comm)
theorem U45(hs:start<N):Z91 aL N k blk start last v=true<->(A last v/\start<v/\blk.testBit v=false)/\B75 aL N v start ((Z2 (Q90 start) (W87 aL blk last) ||| 2^v) ||| 2^start)=k:=by
 unfold Z91;rw[aG,decide_eq_true_eq,N1,bI,aG,aG,hb,M57 (by omega),cJ]
 constructor
 .rintro⟨⟨⟨h1,h2,_⟩,h3⟩,h4⟩;exact⟨⟨h1,h2,h3⟩,h4⟩
 .rintro⟨⟨h1,h2,h3⟩,h4⟩;exact⟨⟨⟨h1,h2,by have:=(hAN _ _ h1).2;omega⟩,h3⟩,h4⟩
include hI
theorem C74(hs:start<N)(h:Z91 aL N (k+2) blk start last v=true):∃ x,x<N/\Z91 aL N (k+1) (W87 aL blk last) start v x=true:=by
 obtain⟨⟨h1,h2,h3⟩,h4⟩:=(U45 hN hb hAN hs).1 h;have O:=(hAN _ _ h1).2;rcases D36 hb hAN (within:=(Z2 (Q90 start) (W87 aL blk last) ||| 2^v) ||| 2^start) (to:=start) O (by omega) with ⟨g,_⟩ | ⟨_,g1,g2⟩
 .omega
 rw[h4] at g1 g2;have hP:∀ x,((Z2 (Q90 start) (W87 aL blk last) ||| 2^v) ||| 2^start).testBit x=true<->ExW A blk start last v x:=fun x=>U50 hN hb hAN hs
 have J:∀ y x,((Z2 (Q90 start) (W87 aL (W87 aL blk last) v) ||| 2^y) ||| 2^start).testBit x=true<->ExW A (W87 aL blk last) start v y x:=fun y x=>U50 hN hb hAN hs
 simp only[hP] at g1 g2;have Q:=g1;obtain⟨f,f1,f2,f3,f4⟩:=g1;have a1:=f3 0 (by omega);rw[f1] at a1;have hx:start<f 1/\f 1<32/\¬ (blk.testBit (f 1)=true\/A last (f 1)\/f 1=last):=by
  rcases f4 1 (by omega) (by omega) with hx | hx | hx
  .exact hx
  .rw[hx] at a1;exact absurd a1 (hI _)
  .exact absurd (Wf.cons (j:=0) a1 (f4 1 (by omega) (by omega)) (Wf.zero.2 hx)) (g2 1 (by omega))
 refine⟨f 1,(hAN _ _ a1).2,(U45 hN hb hAN hs).2 ⟨⟨a1,hx.1,bN.2 fun hc=>hx.2.2 ((J38 hN hb hAN).1 hc)⟩,?_⟩⟩;refine R65 hb hAN (hAN _ _ a1).2 (by omega) ?_ fun j hj hw => ?_
 .simp only[J]
  refine⟨fun t=>f (t+1),rfl,f2,fun i hi=>f3 (i+1) (by omega),fun i h0 hi => ?_⟩;show ExW A (W87 aL blk last) start v (f 1) (f (i+1))
  by_cases e:i=k+1
  .subst e;exact .inr (.inr f2)
  have suf:=Wf.suffix f3 f4 (i:=i+1) (by omega);rw[f2] at suf;rcases f4 (i+1) (by omega) (by omega) with hy | hy | hy
  .refine .inl ⟨hy.1,hy.2.1,fun hc => ?_⟩
   rcases hc with hc | hc | hc
   .exact hy.2.2 ((J38 hN hb hAN).1 hc)
   .exact g2 _ (by omega) (Wf.cons hc (f4 (i+1) (by omega) (by omega)) suf)
   .rw[hc] at suf
    exact g2 _ (by omega) suf
  .rw[hy] at suf
   exact absurd suf (g2 _ (by omega))
  .exact absurd ⟨f,f1,hy,fun t ht=>f3 t (by omega),fun t h0 ht=>f4 t h0 (by omega)⟩ (g2 (i+1) (by omega))
 .simp only[J] at hw
  refine g2 (j+1) (by omega) (Wf.cons a1 (f4 1 (by omega) (by omega)) (hw.mono fun x _ E => ?_));rcases E with E | rfl | rfl
  .exact .inl ⟨E.1,E.2.1,fun hc=>E.2.2 (.inl ((J38 hN hb hAN).2 hc))⟩
  .exact .inl hx
  .exact .inr (.inr rfl)
theorem V71{start:Nat}(hs:start<N):∀(k last:Nat) (p:List Nat) (blk v:Nat),v<N->Z91 aL N (k+1) blk start last v=true->exF aL N start (k+1) last p blk≠[]
 | k,last,p,blk,v,hv,h=>by
  rw[exF]
  cases hf:(aY N).find? (Z91 aL N (k+1) blk start last) with
  | none=>
   have:=List.find?_eq_none.1 hf v (cW.2 hv);exact absurd h this
  | some x=>
   have h1:=List.find?_some hf;have h2:=cW.1 (List.mem_of_find?_eq_some hf)
   cases k with
   | zero=>simp[exF]
   | succ k=>
    obtain⟨y,hy,E⟩:=C74 hN hb hAN hI hs h1;exact V71 hs k x _ _ y hy E
include hA
theorem K68(hL:0<cyV aL N N):4<=cyV aL N N/\∃ s j v,s<N/\j<N/\v<N/\s<j/\A s j/\Z91 aL N (cyV aL N N-2) 0 s j v=true:=by
 obtain⟨i1,i2⟩:=J49 (aL:=aL) (N:=N) N;obtain⟨v0,u0,w0,⟨aa,a4,a8,hc⟩,hd,Z⟩:=i2 hL;generalize a7:cyV aL N N=L at *
 obtain⟨q1,q2,q3⟩:=(G43 hb hAN).1 hc;have hd:0<B75 aL N u0 w0 (D86 aL N v0 u0 w0):=hd;have Z:L=B75 aL N u0 w0 (D86 aL N v0 u0 w0)+2:=Z;rcases D36 hb hAN (within:=D86 aL N v0 u0 w0) (to:=w0) a4 (by omega) with ⟨g,_⟩ | ⟨_,g1,g2⟩
 .omega
 generalize B75 aL N u0 w0 (D86 aL N v0 u0 w0)=d at *
 obtain⟨f,f1,f2,f3,f4⟩:=g1;have V:∀ {a b:Nat},A a b->b≠a:=fun h e=>hI _ (by rw[e] at h;exact h)
 have a9:2<=d:=by
  refine aI fun h => ?_
  obtain rfl:d=1:=by omega
  have:=f3 0 (by omega);rw[f1,f2] at this;exact q3 this
 have cut:∀ i k,i+1<k->k<=d->¬ A (f i) (f k):=fun i k a0 hk ha=>by
  refine g2 (i+1+(d-k)) (by omega) ⟨fun t=>if t<=i then f t else f (t-(i+1)+k),by simp[f1],?_,fun t ht => ?_,fun t h0 ht => ?_⟩
  .simp only[show ¬ (i+1+(d-k)<=i) by omega,if_false]
   rw[show i+1+(d-k)-(i+1)+k=d by omega];exact f2
  .by_cases e:t<=i
   .by_cases e2:t=i
    .subst e2
     simp only[aD,if_true,show ¬ (t+1<=t) by omega,if_false];rw[show t+1-(t+1)+k=k by omega];exact ha
    .simp only[e,if_true,show t+1<=i by omega]
     exact f3 t (by omega)
   .simp only[e,if_false,show ¬ (t+1<=i) by omega]
    rw[show t+1-(i+1)+k=t-(i+1)+k+1 by omega];exact f3 _ (by omega)
  .by_cases e:t<=i
   .simp only[e,if_true];exact f4 t h0 (by omega)
   .simp only[e,if_false];exact f4 _ (by omega) (by omega)
 have dis:∀ i k,i<k->k<=d->f i≠f k:=fun i k a0 hk he=>by
  by_cases e:k=d
  .subst e
   exact g2 i a0 ⟨f,f1,by rw[he];exact f2,fun t ht=>f3 t (by omega),fun t h0 ht=>f4 t h0 (by omega)⟩
  .exact cut i (k+1) (by omega) (by omega) (by rw[he];exact f3 k (by omega))
 have inn:∀ i,0<i->i<d->¬ A v0 (f i)/\f i≠v0:=fun i h0 hi=>by
  rcases (B33 hb hAN).1 (f4 i h0 (by omega)) with h | h | h
  .exact h.2
  .exact absurd (f1.trans h.symm) (dis 0 i h0 (by omega))
  .exact absurd (h.trans f2.symm) (dis i d hi (aD _))
 obtain⟨c,Q⟩:∃ c:Nat->Nat,c=fun t=>if t%L=0 then v0 else f (t%L-1):=⟨_,rfl⟩
 have low:∀ a b,a<b->b<L->c a≠c b/\(A (c a) (c b)<->b=a+1\/(a=0/\b=L-1)):=fun a b ab a3=>by
  have eb:c b=f (b-1):=by rw[Q];simp only[bV a3,show b≠0 by omega,if_false]
  have ea:c a=if a=0 then v0 else f (a-1):=by rw[Q];simp only[bV (show a<L by omega)]
  rw[eb,ea]
  by_cases e:a=0
  .subst e
   rw[if_pos rfl]
   by_cases e1:b=1
   .subst e1
    rw[show 1-1=0 from rfl,f1];exact⟨(V q1).symm,fun _ => .inl rfl,fun _=>q1⟩
   by_cases e2:b=L-1
   .rw[show b-1=d by omega,f2]
    exact⟨(V q2).symm,fun _ => .inr ⟨rfl,e2⟩,fun _=>q2⟩
   .obtain⟨r1,r2⟩:=inn (b-1) (by omega) (by omega)
    exact⟨r2.symm,fun h=>absurd h r1,fun h=>by omega⟩
  .rw[if_neg e]
   refine⟨dis _ _ (by omega) (by omega),fun h => ?_,fun h => ?_⟩
   .refine aI fun hn=>cut (a-1) (b-1) (by omega) (by omega) h
   .have:=f3 (a-1) (by omega)
    rwa [show a-1+1=b-1 by omega] at this
 have a2:∀ i,c (i+L)=c i:=fun i=>by rw[Q];simp only[Nat.add_mod_right]
 have W:∀ i,c i=c (i%L):=fun i=>by rw[Q];simp only[Nat.mod_mod]
 have E:∀ i k,0<k->k<L->c i≠c (i+k)/\(A (c i) (c (i+k))<->k=1\/k=L-1):=fun i k h0 hk=>by
  have ha:=eZ i (show L > 0 by omega);have e:(i+k)%L=if i%L+k<L then i%L+k else i%L+k-L:=by
   rw[Nat.add_mod,bV hk]
   split
   .rename_i h;exact bV h
   .rename_i h
    rw[Nat.mod_eq_sub_mod (by omega),bV (by omega)]
  rw[W i,W (i+k),e];generalize i%L=a at *
  split
  .obtain⟨r1,r2⟩:=low a (a+k) (by omega) (by omega)
   exact⟨r1,r2.trans (by omega)⟩
  .obtain⟨r1,r2⟩:=low (a+k-L) a (by omega) (by omega)
   exact⟨r1.symm,(show A (c a) (c (a+k-L))<->A (c (a+k-L)) (c a) from ⟨hA _ _,hA _ _⟩).trans (r2.trans (by omega))⟩
 obtain⟨m,hm⟩:=N74 c;have gt:∀ k,0<k->k<L->c m<c (m+k):=fun k h0 hk=>by
  have:=hm (m+k);have:=(E m k h0 hk).1;omega
 have U:A (c m) (c (m+1)):=(E m 1 (by omega) (by omega)).2.2 (.inl rfl);have O:A (c (m+1)) (c (m+2)):=(E (m+1) 1 (by omega) (by omega)).2.2 (.inl rfl);have a5:¬ A (c m) (c (m+2)):=fun h=>by have:=(E m 2 (by omega) (by omega)).2.1 h;omega
 have hs:=(hAN _ _ U).1;have hW:∀ x,((Z2 (Q90 (c m)) (W87 aL 0 (c (m+1))) ||| 2^c (m+2)) ||| 2^c m).testBit x=true<->ExW A 0 (c m) (c (m+1)) (c (m+2)) x:=fun x=>U50 hN hb hAN hs
 refine⟨by omega,c m,c (m+1),c (m+2),hs,(hAN _ _ U).2,(hAN _ _ O).2,gt 1 (by omega) (by omega),U,(U45 hN hb hAN hs).2 ⟨⟨O,gt 2 (by omega) (by omega),by simp⟩,?_⟩⟩;have a6:=gt 2 (by omega) (by omega);refine R65 hb hAN (hAN _ _ O).2 (by omega) ?_ fun j hj hw => ?_
 .simp only[hW]
  refine⟨fun t=>c (m+2+t),rfl,?_,fun t ht=>(E (m+2+t) 1 (by omega) (by omega)).2.2 (.inl rfl),fun t h0 ht => ?_⟩
  .show c (m+2+(L-2))=c m
   rw[show m+2+(L-2)=m+L by omega];exact a2 m
  .show ExW A 0 (c m) (c (m+1)) (c (m+2)) (c (m+2+t))
   by_cases e:t=L-2
   .rw[show m+2+t=m+L by omega];exact .inr (.inr (a2 m))
   .have hx:=gt (t+2) (by omega) (by omega)
    have hy:=E (m+1) (t+1) (by omega) (by omega);have hz:=(E (m+1+t) 1 (by omega) (by omega)).2.2 (.inl rfl);rw[show m+1+t+1=m+2+t by omega] at hz;rw[show m+(t+2)=m+2+t by omega] at hx;rw[show m+1+(t+1)=m+2+t by omega] at hy;refine .inl ⟨hx,by have:=(hAN _ _ hz).2;omega,fun J => ?_⟩;rcases J with J | J | J
    .simp at J
    .have:=hy.2.1 J;omega
    .exact hy.1 J.symm
 .simp only[hW] at hw
  have a1:Wf A (fun x=>(D86 aL N (c (m+1)) (c (m+2)) (c m)).testBit x=true) j (c (m+2)) (c m):=hw.mono fun x ⟨y,hy⟩ hx=>(B33 hb hAN).2 (by
   rcases hx with hx | hx | hx
   .exact .inl ⟨(hAN _ _ hy).2,fun h=>hx.2.2 (.inr (.inl h)),fun h=>hx.2.2 (.inr (.inr h))⟩
   .exact .inr (.inl hx)
   .exact .inr (.inr hx))
  rcases D36 hb hAN (within:=D86 aL N (c (m+1)) (c (m+2)) (c m)) (to:=c m) (hAN _ _ O).2 (by omega) with ⟨_,h⟩ | ⟨h,_,h2⟩
  .exact h j a1
  .have h3:=(i1 (c (m+1)) (c (m+2)) (c m) ⟨(hAN _ _ O).1,(hAN _ _ O).2,a6,(G43 hb hAN).2 ⟨O,hA _ _ U,fun g=>a5 (hA _ _ g)⟩⟩ h).2
   have h3:L<=B75 aL N (c (m+2)) (c m) (D86 aL N (c (m+1)) (c (m+2)) (c m))+2:=h3;exact h2 j (by omega) a1
theorem K66{L s j:Nat}(E:s<j)(hn:nbB aL s j=true)(he:exF aL N s (L-2) j [s,j] 0≠[]):∀ w,j<w->scW aL N L s w≠[]
 | 0,h=>by omega
 | w+1,h=>by
  rw[scW]
  by_cases e:scW aL N L s w=[]
  .have:j=w:=aI fun g=>K66 E hn he w (by omega) e
   subst this;rw[if_pos ⟨e,E,hn⟩];exact he
  .rw[if_neg (fun g=>e g.1)];exact e
theorem B66{L s:Nat}(h:scW aL N L s N≠[]):∀ v,s<v->scV aL N L v≠[]
 | 0,g=>by omega
 | v+1,g=>by
  rw[scV]
  by_cases e:scV aL N L v=[]
  .have:s=v:=aI fun g2=>B66 h v (by omega) e
   subst this;rw[if_pos e];exact h
  .rw[if_neg e];exact e
theorem Q74:scF aL N=[]<->Chd A:=by
 rw[<- E73 hb hAN hA];unfold scF
 by_cases h0:cyV aL N N=0
 .rw[if_pos h0];exact⟨fun _=>h0,fun _=>rfl⟩
 .rw[if_neg h0]
  refine⟨fun h => ?_,fun h=>absurd h h0⟩;obtain⟨h4,s,j,v,hs,hj,hv,E,ha,hx⟩:=K68 hN hb hAN hA hI (by omega);refine absurd h (B66 hN hb hAN hA hI (K66 hN hb hAN hA hI E ((hb _ _).2 ha) ?_ N hj) N hs);obtain⟨k,hk⟩:∃ k,cyV aL N N-2=k+1:=⟨cyV aL N N-3,by omega⟩
  rw[hk] at hx ⊢;exact V71 hN hb hAN hI hs k j _ _ v hv hx
end
end
end Go.Clo
namespace Go.Proofs.YtoiioigihocgbaaGreatDoor
open Go.Clo
section
variable {es:List Nat}
theorem M43{a b:Nat}:adj es a b=true<->N10 es a b:=by
 unfold adj N10;simp only[aG,decide_eq_true_eq,dY]
theorem K58{es:List Nat}{s:Nat}:R10 es s=true<->∃ e ∈ es,∀ w,s.testBit w=true->e.testBit w=true:=by
 unfold R10;rw[dY]
 constructor
 .rintro⟨e,h1,h2⟩;exact⟨e,h1,M34.1 (of_decide_eq_true h2)⟩
 .rintro⟨e,h1,h2⟩;exact⟨e,h1,decide_eq_true (M34.2 h2)⟩
section
variable {es:List Nat} {N f:Nat} (hN:N<=6) (hsm:∀ e ∈ es,e<2^N) (hle:es.length<=8) (hcov:∀ w,w<N->∃ e ∈ es,e.testBit w=true) (hf:f<=N)
include hN hsm hle hcov hf
end
end
theorem R57{aL:List Nat}{N inn f:Nat}:∀ i,(J4 aL N inn f i).1≠0->∃ x,x<i/\(J4 aL N inn f i).2 x≠0
 | 0,h=>absurd rfl h
 | i+1,h=>by
  cases hr:shG aL inn (N14 aL f i) (J4 aL N inn f i).1 N 0 (aL.getD i 0 &&& inn) 2 with
  | none=>
   have e:J4 aL N inn f (i+1)=J4 aL N inn f i:=by rw[J4,hr];rfl
   rw[e] at h ⊢;obtain⟨x,h1,h2⟩:=R57 i h;exact⟨x,by omega,h2⟩
  | some r=>
   obtain⟨st,last⟩:=r;have e:J4 aL N inn f (i+1)=(st,fun x=>if x=i then last else if (J4 aL N inn f i).1=0\/st<(J4 aL N inn f i).1 then 0 else(J4 aL N inn f i).2 x):=by rw[J4,hr];rfl
   rw[e];obtain⟨_,_,h4,_⟩:=K15 (b0:=aL.getD i 0 &&& inn) N 0 _ 2 (fun w hw=>hw) (aD _) hr;exact⟨i,by omega,by dsimp only;rw[if_pos rfl];exact h4⟩
theorem Z60{aL:List Nat}{N inn f:Nat}:∀ i,(J4 aL N inn f i).1=0->∀ x,x<i->shG aL inn (N14 aL f x) 0 N 0 (aL.getD x 0 &&& inn) 2=none
 | 0,_,x,hx=>by omega
 | i+1,h,x,hx=>by
  cases hr:shG aL inn (N14 aL f i) (J4 aL N inn f i).1 N 0 (aL.getD i 0 &&& inn) 2 with
  | none=>
   have e:J4 aL N inn f (i+1)=J4 aL N inn f i:=by rw[J4,hr];rfl
   rw[e] at h;rw[h] at hr
   by_cases E:x=i
   .subst E;exact hr
   .exact Z60 i h x (by omega)
  | some r=>
   obtain⟨st,last⟩:=r;have e:J4 aL N inn f (i+1)=(st,fun x=>if x=i then last else if (J4 aL N inn f i).1=0\/st<(J4 aL N inn f i).1 then 0 else(J4 aL N inn f i).2 x):=by rw[J4,hr];rfl
   rw[e] at h;obtain⟨h2,_⟩:=K15 (b0:=aL.getD i 0 &&& inn) N 0 _ 2 (fun w hw=>hw) (aD _) hr;dsimp only at h h2;omega
def Q20(N inn E:Nat):Nat:=(aY N).countP fun w=>inn.testBit w && !E.testBit w
theorem R64{N inn E b w:Nat}(hw:w<N)(hb:b.testBit w=true)(hi:inn.testBit w=true)(hs:E.testBit w=false):Q20 N inn (E ||| b)<Q20 N inn E:=by
 unfold Q20;have key:∀ l:List Nat,l.countP (fun w=>inn.testBit w && !(E ||| b).testBit w)<=l.countP fun w=>inn.testBit w && !E.testBit w:=fun l=>by
  refine List.countP_mono_left fun x _ hx => ?_
  rw[aV] at hx
  cases h1:E.testBit x with
  | true=>rw[h1] at hx;simp at hx
  | false=>rw[h1] at hx;simp at hx;simp[hx.1]
 obtain⟨s,t,e⟩:=List.append_of_mem (cW.2 hw);rw[e,List.countP_append,List.countP_append,List.countP_cons,List.countP_cons];have h1:=key s;have h2:=key t;have e1:(inn.testBit w && !(E ||| b).testBit w)=false:=by rw[aV,hb];simp
 have e2:(inn.testBit w && !E.testBit w)=true:=by rw[hi,hs];rfl
 simp only[e1,e2,if_true,dQ,if_false];omega
theorem K49 {aL:List Nat} {N inn far:Nat} (hi:inn<2^N) (hN:N<=32) (hlt:∀ u,aL.getD u 0<2^N):∀ (k seen b st:Nat),shG aL inn far 0 k seen b st=none->(∀ w,b.testBit w=true->inn.testBit w=true/\seen.testBit w=false) ->
  (∀ u,seen.testBit u=true->∀ w,(aL.getD u 0).testBit w=true->(inn.testBit w=true->seen.testBit w=true\/b.testBit w=true)/\far.testBit w=false)->Q20 N inn seen+1<=k ->
  ∃ S:Nat->Prop,(∀ w,seen.testBit w=true\/b.testBit w=true->S w)/\∀ u,S u->∀ w,(aL.getD u 0).testBit w=true->(inn.testBit w=true->S w)/\far.testBit w=false
 | 0,seen,b,st,_,_,_,hk=>by omega
 | k+1,seen,b,st,h,hb,hc,hk=>by
  unfold shG at h
  by_cases h0:b=0
  .refine⟨fun w=>seen.testBit w=true,fun w hw => ?_,fun u hu w hw => ?_⟩
   .rcases hw with hw | hw
    .exact hw
    .rw[h0] at hw;simp at hw
   .obtain⟨h1,h2⟩:=hc u hu w hw
    refine⟨fun hi => ?_,h2⟩
    rcases h1 hi with h3 | h3
    .exact h3
    .rw[h0] at h3;simp at h3
  .rw[if_neg (by simp[h0])] at h
   split at h
   .cases h
   .rename_i hfar
    have hfar:Q4 aL b 32 &&& far=0:=Classical.byContradiction hfar
    obtain⟨w0,hw0⟩:=B14 h0
    obtain⟨i0,s0⟩:=hb w0 hw0
    have hlt0:=R64 (R7 hi i0) hw0 i0 s0
    refine (fun g => ?_) (K49 hi hN hlt k (seen ||| b) _ _ h (fun w hw => ?_) (fun u hu w hw => ?_) (by omega))
    .obtain⟨S,h1,h2⟩:=g
     refine⟨S,fun w hw=>h1 w (.inl ?_),h2⟩
     rcases hw with hw | hw
     .rw[Nat.testBit_or,hw];rfl
     .rw[Nat.testBit_or,hw,Bool.or_true]
    .rw[N1,Bool.and_eq_true,Nat.testBit_and,Bool.and_eq_true,Bool.not_eq_true'] at hw
     exact⟨hw.1.2,hw.2⟩
    .rw[Nat.testBit_or,Bool.or_eq_true] at hu
     rcases hu with hu | hu
     .obtain⟨h3,h4⟩:=hc u hu w hw
      refine⟨fun hi => .inl ?_,h4⟩
      rw[Nat.testBit_or,Bool.or_eq_true]
      exact h3 hi
     .have hu32:u<32:=Nat.lt_of_lt_of_le (R7 hi (hb u hu).1) hN
      have hn:(Q4 aL b 32).testBit w=true:=Y7.2 ⟨u,hu32,hu,hw⟩
      constructor
      .intro hiw
       by_cases hsb:(seen ||| b).testBit w=true
       .exact .inl hsb
       .refine .inr ?_
        rw[N1,Nat.testBit_and,hn,hiw,Bool.eq_false_iff.2 hsb];rfl
      .have:=congrArg (·.testBit w) hfar
       simp only[Nat.testBit_and,Nat.zero_testBit,hn,Bool.true_and] at this
       exact this
section
variable {es:List Nat} {N f:Nat} (hN:N<=6) (hf:f<=N)
include hN hf
theorem B17(u w:Nat):((B2 es N).getD u 0).testBit w=true<->u<N/\w<N/\N10 es u w:=by
 by_cases hu:u<N
 .rw[aP,V39 es (by omega) hu,Option.getD_some,E26,aG,decide_eq_true_eq,M43]
  exact⟨fun⟨h1,h2⟩=>⟨hu,h1,h2⟩,fun⟨_,h1,h2⟩=>⟨h1,h2⟩⟩
 .have:(B2 es N).getD u 0=0:=by
   rw[aP]
   by_cases E:u<32
   .simp[B2,E,hu]
   .rw[aT (by rw[N9];omega)];rfl
  rw[this];simp[hu]
theorem J69(u:Nat):(B2 es N).getD u 0<2^N:=Nat.lt_pow_two_of_testBit _ fun w hw=>bN.2 fun h=>by
 have:=((B17 hN hf u w).1 h).2.1;omega
theorem X38(w:Nat):(K10 N f).testBit w=true<->f<=w/\w<N:=by
 unfold K10;rw[N1,dC,dC];simp;omega
theorem M73:K10 N f<2^N:=Z6 (by have:=aQ N;omega)
theorem V57{x:Nat}(w:Nat):(N14 (B2 es N) f x).testBit w=true<->w<f/\w≠x/\¬ (x<N/\N10 es x w):=by
 unfold N14;rw[N1,N1,dC,aR,aG,aG,decide_eq_true_eq,cJ,cJ,<- Bool.not_eq_true,B17 hN hf,decide_eq_false_iff_not]
 constructor
 .rintro⟨⟨h1,h2⟩,h3⟩
  exact⟨h1,fun e=>h3 e.symm,fun⟨h4,h5⟩=>h2 ⟨h4,by omega,h5⟩⟩
 .rintro⟨h1,h2,h3⟩
  exact⟨⟨h1,fun⟨h4,_,h5⟩=>h3 ⟨h4,h5⟩⟩,fun e=>h2 e.symm⟩
theorem C61{x:Nat}(hx:x<N):∀(k u:Nat),(lev (B2 es N) (K10 N f) ((B2 es N).getD x 0 &&& K10 N f) k).testBit u=true->(f<=u/\u<N)/\V9 (N10 es) (fun v=>f<=v/\v<N) x u
 | 0,u,h=>by
  rw[lev,bI,aG,B17 hN hf,X38 hN hf] at h;exact⟨h.2,.one h.1.2.2⟩
 | k+1,u,h=>by
  rw[lev,bI,aG,X38 hN hf] at h;obtain⟨v,_,hv,E⟩:=Y7.1 h.1;obtain⟨h1,h2⟩:=C61 hx k v hv;exact⟨h.2,h2.trans h1 (.one ((B17 hN hf v u).1 E).2.2)⟩
theorem W67:(K24 (B2 es N) N f).isSome=true<->U25 (N10 es) N f []:=by
 rw[V45]
 constructor
 .intro h
  unfold K24 at h
  split at h
  .cases h
  .rename_i x hx
   have hxf:x<f:=by simpa using List.mem_of_find?_eq_some hx
   have hne:=List.find?_some hx
   have hne:(J4 (B2 es N) N (K10 N f) f f).2 x≠0:=by simpa using hne
   obtain⟨_,lim,hs⟩:=E47 f x hne
   obtain⟨_,_,_,h4,u,z,h5,h6,h7⟩:=K15 (b0:=(B2 es N).getD x 0 &&& K10 N f) N 0 _ 2 (fun w hw=>hw) (Nat.le_refl _) hs
   obtain⟨h8,h9⟩:=C61 hN hf (show x<N by omega) _ u h5
   obtain⟨_,hzN,huz⟩:=(B17 hN hf u z).1 h7
   obtain⟨hzf,hzx,hna⟩:=(V57 hN hf z).1 (h4 z h6)
   have hna:¬ N10 es x z:=fun g=>hna ⟨by omega,g⟩
   obtain⟨l,hl,hch⟩:=(h9.trans h8 (.one huz)).chordless (fun e=>hzx e.symm)
   have hlen:=hl.len
   have hlen3:3<=l.length:=by
    rcases Nat.lt_or_ge 2 l.length with h | h
    .exact h
    .have h2:l.length=2:=by omega
     have e1:=hl.first
     have e2:=hl.last 1 (by omega)
     exact absurd (hl.step 0 x z e1 e2) hna
   refine⟨l,hlen3,hch,fun i y hy => ?_,fun i y hy => ?_⟩
   .have hil:=(List.getElem?_eq_some_iff.1 hy).1
    rcases Nat.eq_zero_or_pos i with rfl | hi
    .rw[hl.first] at hy;cases hy;omega
    .by_cases hi2:i+1=l.length
     .rw[hl.last i hi2] at hy;cases hy;omega
     .exact (hl.inn i y hy hi (by omega)).2
   .have hil:=(List.getElem?_eq_some_iff.1 hy).1
    constructor
    .intro hyf
     refine Classical.byContradiction fun hn => ?_
     have:=(hl.inn i y hy (by omega) (by omega)).1
     omega
    .rintro (rfl | hi2)
     .rw[hl.first] at hy;cases hy;exact hxf
     .rw[hl.last i hi2] at hy;cases hy;exact hzf
 .rintro⟨l,hl⟩
  have hlen:=hl.len
  obtain⟨x,hx⟩:∃ x,l[0]? = some x:=⟨_,List.getElem?_eq_getElem (by omega)⟩
  obtain⟨z,hz⟩:∃ z,l[l.length-1]? = some z:=⟨_,List.getElem?_eq_getElem (by omega)⟩
  have hxf:=(hl.ends 0 x hx).2 (.inl rfl)
  have hzf:=(hl.ends _ z hz).2 (.inr (by omega))
  obtain⟨hxz,hna⟩:=hl.ch 0 _ x z (by omega) hx hz
  have hna:¬ N10 es x z:=fun g=>by have:=hna.1 g;omega
  have hinn:∀ (i y:Nat),l[i]? = some y->0<i->i+1<l.length->(K10 N f).testBit y=true:=fun i y hy h0 h1=>by
   rw[X38 hN hf]
   have:=hl.lt i y hy
   refine⟨?_,this⟩
   have:=(hl.ends i y hy)
   omega
  have hadj:∀ (i y w:Nat),l[i]? = some y->l[i+1]? = some w->((B2 es N).getD y 0).testBit w=true:=fun i y w hy hw=>by
   rw[B17 hN hf]
   exact⟨hl.lt i y hy,hl.lt _ w hw,(hl.ch i (i+1) y w (by omega) hy hw).2.2 rfl⟩
  have h1:(J4 (B2 es N) N (K10 N f) f f).1≠0:=by
   intro h0
   have hnone:=Z60 f h0 x hxf
   have hun:Q20 N (K10 N f) 0+1<=N:=by
    have h1:Q20 N (K10 N f) 0<=((List.range N).filter fun w=>decide (w≠x)).length:=by
     unfold Q20
     rw[<- List.countP_eq_length_filter]
     refine List.countP_mono_left fun w _ hw => ?_
     simp at hw
     have:=((X38 hN hf w).1 hw).1
     simp;omega
    have h2:((List.range N).filter fun w=>decide (w≠x)).length<(List.range N).length:=by
     rw[<- List.countP_eq_length_filter]
     rcases Nat.lt_or_ge ((List.range N).countP fun w=>decide (w≠x)) (List.range N).length with h | h
     .exact h
     .have:=List.countP_eq_length.1 (Nat.le_antisymm List.countP_le_length h) x (by simp;omega)
      simp at this
    rw[List.length_range] at h2
    omega
   obtain⟨S,s1,s2⟩:=K49 (M73 hN hf) (by omega) (J69 hN hf) N 0 _ 2 hnone (fun w hw=>by
    rw[Nat.testBit_and,Bool.and_eq_true] at hw
    exact⟨hw.2,by simp⟩) (fun u hu=>by simp at hu) hun
   have hS:∀ (i y:Nat),l[i]? = some y->0<i->i+1<l.length->S y:=by
    intro i
    induction i with
    | zero=>intro y _ h0;omega
    | succ i ih=>
     intro y hy _ hi
     obtain⟨u,hu⟩:∃ u,l[i]? = some u:=⟨_,List.getElem?_eq_getElem (by omega)⟩
     have hin:=hinn (i+1) y hy (by omega) hi
     rcases Nat.eq_zero_or_pos i with rfl | h0
     .rw[hx] at hu;cases hu
      refine s1 y (.inr ?_)
      rw[Nat.testBit_and,hadj 0 x y hx hy,hin];rfl
     .exact (s2 u (ih u hu h0 (by omega)) y (hadj i u y hu hy)).1 hin
   obtain⟨u,hu⟩:∃ u,l[l.length-2]? = some u:=⟨_,List.getElem?_eq_getElem (by omega)⟩
   have hSu:=hS _ u hu (by omega) (by omega)
   have hz':l[l.length-2+1]? = some z:=by rw[show l.length-2+1=l.length-1 by omega];exact hz
   have:=(s2 u hSu z (hadj _ u z hu hz')).2
   rw[Bool.eq_false_iff] at this
   refine this ((V57 hN hf z).2 ⟨hzf,fun e=>hxz e.symm,fun g=>hna g.2⟩)
  obtain⟨y,hy1,hy2⟩:=R57 f h1
  unfold K24
  split
  .rename_i hno
   rw[List.find?_eq_none] at hno
   exact absurd (by simpa using hy2) (hno y (by simpa using hy1))
  .rfl
end
end Go.Proofs.YtoiioigihocgbaaGreatDoor
