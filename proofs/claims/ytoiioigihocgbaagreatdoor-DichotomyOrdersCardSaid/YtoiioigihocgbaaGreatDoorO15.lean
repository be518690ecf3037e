/-
  Contracts: the closure of hypergraph.shortestCycle,shortestCycle.
  Contracts: hypergraph.shortestCycle,size,escapes,disjoint.
  Contracts: hypergraph.size,escapes,disjoint,the closure of smallestClique.
  Contract: hypergraph.smallestClique.
  Contracts: slices.Compare of numbers,hypergraph.Obstruction.
  Plain: the shortest paths between free vertices through others,and the walk along their stages.
  MADE BY PROGRAM (wip/gen/gen.py): functions 71 36 26 39 38 15 13 28 11 25 10 14 3 as marked code,and their claims written out.
  MADE BY PROGRAM (wip/gen/gen.py,from the IR of a piece of code): connex.walk up to its range over slices.Backward as marked code,and its claim written out.
  .
-/
import Derived.Test.YtoiioigihocgbaaGreatDoorO14
import Derived.Test.YtoiioigihocgbaaGreatDoorO12
import Derived.KernelRfl
import Derived.Test.YtoiioigihocgbaaGreatDoorO4
set_option maxHeartbeats 8000000
set_option maxRecDepth 100000
set_option linter.all false
noncomputable section
open BitVec renaming ofInt->cT,toNat_ofNat->eP
open Bool renaming and_eq_true->aG,eq_false_iff->bN,eq_iff_iff->eX,not_eq_true'->cJ,or_eq_true->cO
open Go.IntKind renaming u32->eW
open List renaming any_eq_true->dY,drop_of_length_le->cM,foldl_cons->dF,getD_eq_getElem?_getD->aP,getElem?_append_left->bQ,getElem?_eq_getElem->aE,getElem?_eq_some_iff->aJ,getElem?_map->cP,length_append->bH,length_cons->cV,length_eq_zero_iff->dT,length_map->gM,length_take->cK,mem_of_getElem?->aH,range->aY,replicate->aF,take_of_length_le->gJ
open Nat renaming add_assoc->eH,eq_of_beq_eq_true->bT,le_refl->aD,lt_of_le_of_lt->cE,mul_le_mul->eL,mul_one->eQ,pow_le_pow_right->aK,testBit_and->bI,two_pow_pos->aQ,zero_add->cF
open Option renaming elim_some->aN,isSome_none->gO
namespace Go.Clo
theorem Q64 {H:Y0} {nx b s bytes:Nat} {c:List Value} {x y:Value} {k:EP} (hg:J0 H b=some (.cells c s)) (hs:s=0\/s=1) (hc:0<c.length) (hx:Src H 1 x 1 [y]) (ho:Z0 [y]=true) (hb:bytes<=16) (hlen:c.length<=1000000)
  (hk:∀ H',J0 H' nx=some (.cells (c++[y]) 1)->(∀ i,i≠nx->i≠b->J0 H' i=J0 H i)->k (.slice (some ⟨nx,0,none⟩) (c.length+1) (c.length+1)) H' (nx+1)):B5 (.slice (some ⟨b,0,none⟩) c.length c.length) x 1 bytes H nx k:=by
 have hb1:(2*(c.length+1)+1000)*bytes<=281474976710656:=by
  have:=Nat.mul_le_mul (show 2*(c.length+1)+1000<=2*1000001+1000 by omega) hb
  omega
 have hl:(c++[y]).length=(c.length+1)*1:=by simp
 unfold B5 Z22
 rw[hx.len]
 dsimp only
 rw[G1,V6 hb1,V6 (show c.length+1<=1000000000 by omega)]
 simp only[Bool.and_self,cond_true]
 rw[hx.first,ho,E27 (show c.length<c.length+1 by omega)]
 simp only[cond_true,cond_false]
 have hold:∀ k:List Value->Prop,Z5 H 1 c.length (.slice (some ⟨b,0,none⟩) c.length c.length) False k=k c:=(J9 hg (by omega) (by omega)).first
 rw[hold,V14,hl,D13]
 simp only[cond_true,D22]
 rw[Y4,hg]
 simp only[Option.elim_some]
 rcases hs with rfl | rfl
 .have hls:N8 (.cells c 0) 0 c.length 1=some false:=rfl
  rw[hls]
  dsimp only
  simp only[K11]
  rw[G1,G1,G4]
  exact hk _ (Z11 _ _ _) fun i hi _=>Z1 _ hi
 .have hls:N8 (.cells c 1) 0 c.length 1=some true:=by
   simp only[N8]
   rw[K43 (show (1:Nat)≠0 by omega),D13]
   simp only[cond_false,cond_true]
   rw[Nat.zero_add,Nat.mul_one,D13]
  rw[hls]
  dsimp only
  rw[G4]
  simp only[K11]
  rw[G1,G1,G4]
  exact hk _ (Z11 _ _ _) fun i hi hne=>by rw[Z1 _ hi,Z1 _ hne]
theorem K103{x:Nat}(h:x<4294967296)(k:VP):wUn .xor (.int .u32 (x:Int)) k=k (.int .u32 ((4294967295-x:Nat):Int)):=by
 have e:unV .xor (.int .u32 (x:Int))=some (.int .u32 (eW.wrap (((cT 32 4294967295 ^^^ cT 32 (x:Int)).toNat:Nat):Int))):=rfl;have e1:cT 32 4294967295=BitVec.allOnes 32:=by decide
 have e3:(cT 32 4294967295 ^^^ cT 32 (x:Int)).toNat=4294967295-x:=by
  rw[e1,<- BitVec.not_def,BitVec.toNat_not,W10,eP];omega
 unfold wUn;rw[e,e3,D15 (by omega),J8];rfl
theorem J55{p:Nat->Bool}{N v:Nat}(h:∀ u,u<v->p u=false)(hv:v<N)(hp:p v=true):(aY N).find? p=some v:=by
 rw[List.find?_eq_some_iff_getElem];refine⟨hp,v,by simpa using hv,by simp,fun j hj => ?_⟩;simp[h j hj]
theorem D58{p:Nat->Bool}{N:Nat}(h:∀ u,u<N->p u=false):(aY N).find? p=none:=by
 rw[List.find?_eq_none];intro x hx;rw[h x (by simpa using hx)];simp
structure KB (b:Nat) (H:Y0) (nx:Nat) (H':Y0) (nx':Nat):Prop where
 le:nx<=nx'
 get:∀ i,i<nx->i≠b->J0 H' i=J0 H i
theorem KB.of{b:Nat}{H:Y0}{nx:Nat}{H':Y0}{nx':Nat}(h:D0 H nx H' nx'):KB b H nx H' nx':=⟨h.le,fun i hi _=>h.get i hi⟩
def LsR(l:List Nat)(v:Value)(H:Y0)(nx:Nat):Prop:=∃ A,v = .slice A l.length l.length/\(A=none<->l=[])/\Sl H nx A (U4 (l.map fun(x:Nat)=>(x:Int)))
theorem C66(H:Y0)(nx:Nat):LsR [] (.slice none 0 0) H nx:=⟨none,rfl,by simp,Sl.nil _ _ _⟩
end Go.Clo
namespace Go.Proofs.YtoiioigihocgbaaGreatDoor
open Go.Clo
structure ExE (aL:List Nat) (N L q8 q4 q2 q12:Nat) (H:Y0) (m:Nat):Prop where
 g8:J0 H q8=some (.cells [.int .i64 (L:Int)] 0)
 g4:J0 H q4=some (.cells (K12 aL) 0)
 g2:J0 H q2=some (.cells [.int .i64 (N:Int)] 0)
 g12:J0 H q12=some (.cells [.func (.func 64) ⟨[]⟩ ⟨[.pointer (some ⟨q8,0,none⟩),.pointer (some ⟨q4,0,none⟩),.pointer (some ⟨q2,0,none⟩),.pointer (some ⟨q12,0,none⟩)]⟩] 0)
 l8:q8<m
 l4:q4<m
 l2:q2<m
 l12:q12<m
theorem ExE.step{aL:List Nat}{N L q8 q4 q2 q12:Nat}{H:Y0}{m:Nat}(h:ExE aL N L q8 q4 q2 q12 H m){H':Y0}{m':Nat}(hm:m<=m')(e:∀ i,i=q8\/i=q4\/i=q2\/i=q12->J0 H' i=J0 H i):ExE aL N L q8 q4 q2 q12 H' m':=by
 have a1:=h.l8;have a2:=h.l4;have a3:=h.l2;have a4:=h.l12;exact⟨(e _ (.inl rfl)).trans h.g8,(e _ (.inr (.inl rfl))).trans h.g4,(e _ (.inr (.inr (.inl rfl)))).trans h.g2,(e _ (.inr (.inr (.inr rfl)))).trans h.g12,by omega,by omega,by omega,by omega⟩
theorem ExE.ext{aL:List Nat}{N L q8 q4 q2 q12:Nat}{H:Y0}{m:Nat}(h:ExE aL N L q8 q4 q2 q12 H m){H':Y0}{m':Nat}(e:D0 H m H' m'):ExE aL N L q8 q4 q2 q12 H' m':=by
 have a1:=h.l8;have a2:=h.l4;have a3:=h.l2;have a4:=h.l12;exact h.step e.le fun i hi=>e.get i (by omega)
section
variable {aL:List Nat} {N:Nat} (hN:N<=6) (hL:NbL aL N)
include hN hL
theorem Z99 {L q8 q4 q2 q12 start:Nat} (hs:start<N) (hLb:L<=9):∀ (k:Nat) (last:Nat) (p:List Nat) (blk b s:Nat) (H:Y0) (m:Nat),ExE aL N L q8 q4 q2 q12 H m->J0 H b=some (.cells (U4 (p.map fun (x:Nat)=>(x:Int))) s)->(s=0\/s=1)->b<m ->
  b≠q8/\b≠q4/\b≠q2/\b≠q12->p.length+k=L->p[0]? = some start->p[p.length-1]? = some last->last<N->blk<2^N ->
  Q2 Tryz.prog 64 [.slice (some ⟨b,0,none⟩) p.length p.length,.int .u32 (blk:Int),.pointer (some ⟨q8,0,none⟩),.pointer (some ⟨q4,0,none⟩),.pointer (some ⟨q2,0,none⟩),.pointer (some ⟨q12,0,none⟩)] H m
   fun r H' m'=>LsR (exF aL N start k last p blk) r H' m'/\KB b H m H' m':=by
 have hp64:2^N<=64:=Nat.pow_le_pow_right (n:=2) (by omega) hN
 have hp1:0<2^N:=Nat.two_pow_pos N
 have h32:=M44 hN hL
 intro k
 induction k with
 | zero=>
  intro last p blk b s H m hE hg hs' hbm hbq hpk h0 hla hlN hblk
  have hlen:(U4 (p.map fun (x:Nat)=>(x:Int))).length=p.length:=by rw[X9,List.length_map]
  have hp0:0<p.length:=(List.getElem?_eq_some_iff.1 h0).1
  have d1:decide ((p.length:Int)=(L:Int))=true:=by simp;omega
  refine spec64 ?_
  unfold F64
  simp (disch:=first|omega|assumption|exact G0 (by assumption)|exact U10 (by assumption)|exact X0 (by omega)|fail) only[W0,Q0.val,hE.g8,d1]
  refine⟨⟨_,rfl,⟨fun h=>(by cases h),fun h => ?_⟩,fun i u hu=>⟨b,0,_,rfl,hbm,by rw[Q5,hg];rfl,by rw[Nat.zero_add];exact hu⟩⟩,KB.of (D0.refl _ _)⟩
  rw[show exF aL N start 0 last p blk=p from rfl] at h
  rw[h] at hp0
  simp at hp0
 | succ k ih=>
  intro last p blk b s H m hE hg hs' hbm hbq hpk h0 hla hlN hblk
  have hlen:(U4 (p.map fun (x:Nat)=>(x:Int))).length=p.length:=by rw[X9,List.length_map]
  have hp0:0<p.length:=(List.getElem?_eq_some_iff.1 h0).1
  have d1:decide ((p.length:Int)=(L:Int))=false:=by simp;omega
  have q0:(U4 (p.map fun (x:Nat)=>(x:Int)))[0]? = some (.int .i64 (start:Int)):=Z9 (by rw[List.getElem?_map,h0];rfl)
  have q1:(U4 (p.map fun (x:Nat)=>(x:Int)))[p.length-1]? = some (.int .i64 (last:Int)):=Z9 (by rw[List.getElem?_map,hla];rfl)
  have e1:((p.length:Int)-1).toNat=p.length-1:=by omega
  obtain⟨xl,gl,xl2,xlD⟩:=hL.at (u:=last) (by omega)
  have gl:=Q3 gl
  have hst:2^(start+1)-1<4294967296:=by
   have:2^(start+1)<=2^32:=Nat.pow_le_pow_right (by omega) (by omega)
   omega
  have blk32:blk<4294967296:=by omega
  have xl32:xl<4294967296:=by omega
  have o1:blk ||| xl<2^N:=Z26 hblk xl2
  have o132:blk ||| xl<4294967296:=by omega
  have o2:W87 aL blk last<2^N:=Z26 (by rw[xlD];exact o1) (R27 hlN)
  have o3:W87 aL blk last=(blk ||| xl) ||| 2^last:=by unfold W87;rw[xlD]
  have pl:2^last<4294967296:=by have:=R27 hlN;omega
  have l32:last<32:=by omega
  have lrg32:Q90 start<4294967296:=by unfold Q90;omega
  refine spec64 ?_
  unfold F64
  simp (config:={ maxSteps:=2000000 }) (disch:=first|omega|assumption|exact G0 (by assumption)|exact U10 (by assumption)|exact X0 (by omega)|fail) only[W0,Q0.val,hE.g8,d1,hg,q0,q1,e1]
  refine R0 (C51 (n:=start+1) (by omega) _ _) ?_
  rintro _ _ _ ⟨rfl,rfl,rfl⟩
  simp (config:={ maxSteps:=2000000 }) (disch:=first|omega|assumption|exact G0 (by assumption)|exact U10 (by assumption)|exact X0 (by omega)|fail) only[W0,K103 hst,hE.g4,gl,hE.g2]
  rw[show 4294967295-(2^(start+1)-1)=Q90 start from rfl,<- o3]
  generalize hlg:Q90 start=lg at *
  generalize haf:W87 aL blk last=af at *
  have af32:af<4294967296:=by omega
  refine B1 (m:=N) (fun q L' H' m'=>∃ v:Nat,q+v=N/\L'=[.int .i64 (v:Int)]/\(∀ u,u<v->Z91 aL N (k+1) blk start last u=false)/\D0 H m H' m') ?_ ⟨0,by omega,rfl,fun u h=>by omega,D0.self (by omega)⟩
  rintro q ihq L' H2 m2 ⟨v,hq,rfl,hno,e2⟩ hihq
  have hE2:=hE.ext e2
  have hg2:=(e2.get b hbm).trans hg
  by_cases hv:v<N
  case neg=>
   obtain rfl:v=N:=by omega
   have hv':¬ (v:Int)<(v:Int):=by omega
   simp (disch:=first|omega|assumption|exact G0 (by assumption)|exact U10 (by assumption)|exact X0 (by omega)|fail) only[W0,hv']
   rw[exF,D58 hno]
   exact⟨C66 _ _,KB.of e2⟩
  have hv':(v:Int)<(N:Int):=by omega
  have v32:v<32:=by omega
  have cand32:xl &&& lg<4294967296:=D52 xl32
  have cnd32:Z2 (xl &&& lg) blk<4294967296:=U10 cand32
  have hok:Z91 aL N (k+1) blk start last v=((Z2 (xl &&& lg) blk).testBit v&&decide (B75 aL N v start ((Z2 lg af ||| 2^v) ||| 2^start)=k+1)):=by
   unfold Z91
   rw[xlD,hlg,haf]
  have next:Z91 aL N (k+1) blk start last v=false->∀ u,u<v+1->Z91 aL N (k+1) blk start last u=false:=fun h u hu=>by
   by_cases e:u=v
   .subst e;exact h
   .exact hno u (by omega)
  rw[hok] at next
  cases hbit:(Z2 (xl &&& lg) blk).testBit v with
  | false=>
   simp (disch:=first|omega|assumption|exact G0 (by assumption)|exact U10 (by assumption)|exact X0 (by omega)|fail) only[W0,hv',N13,hE2.g4,gl,hbit]
   exact hihq (q-1) _ _ _ (by omega) ⟨v+1,by omega,by simp,next (by rw[hbit];rfl),e2⟩
  | true=>
   have n1:Z2 lg af<4294967296:=U10 lrg32
   have pv:2^v<4294967296:=by have:=R27 hv;omega
   have ps:2^start<4294967296:=by have:=R27 hs;omega
   have n2:Z2 lg af ||| 2^v<4294967296:=M54 n1 pv
   have n3:(Z2 lg af ||| 2^v) ||| 2^start<4294967296:=M54 n2 ps
   have s32:start<32:=by omega
   simp (config:={ maxSteps:=2000000 }) (disch:=first|omega|assumption|exact G0 (by assumption)|exact U10 (by assumption)|exact X0 (by omega)|fail) only[W0,hv',N13,hE2.g4,gl,hbit,hE2.g2,M18 h32]
   refine R0 (B83 hN hL hv hs n3 _ _) ?_
   rintro _ H3 m3 ⟨rfl,h3⟩
   have e3:=(e2.more (show m2<=m2+21 by omega)).trans h3
   have hE3:=hE.ext e3
   have hg3:=(e3.get b hbm).trans hg
   have hd7:=D81 hN hL (u:=v) (w:=start) (within:=(Z2 lg af ||| 2^v) ||| 2^start)
   generalize B75 aL N v start ((Z2 lg af ||| 2^v) ||| 2^start)=d at *
   have hLk:(L:Int)-(p.length:Int)=((k+1:Nat):Int):=by omega
   by_cases hdk:d=k+1
   .subst hdk
    simp (config:={ maxSteps:=2000000 }) (disch:=first|omega|assumption|exact G0 (by assumption)|exact U10 (by assumption)|exact X0 (by omega)|fail) only[W0,hE3.g8,hE2.g8,hE3.g12,hLk]
    have hbs:∀ (x:Int) k,K6 1 1 [.int .i64 0] [(0,.int .i64 x)] k=k [.int .i64 x]:=fun x k=>rfl
    rw[hbs]
    have hE4:D0 H3 m3 (Go.Clo.hs H3 (m3+3) (some (.cells [.int .i64 (v:Int)] 0))) (m3+8):=(D0.refl _ _).new _ (by omega) (by omega)
    have g4:J0 (Go.Clo.hs H3 (m3+3) (some (.cells [.int .i64 (v:Int)] 0))) (m3+3)=some (.cells [.int .i64 (v:Int)] 0):=Z11 _ _ _
    generalize Go.Clo.hs H3 (m3+3) (some (.cells [.int .i64 (v:Int)] 0))=H4 at *
    have hg4:J0 H4 b=some (.cells (U4 (p.map fun (x:Nat)=>(x:Int))) s):=(hE4.get b (by have:=e3.le;omega)).trans hg3
    obtain⟨n9,hn9⟩:∃ n9,n9=m3+8:=⟨_,rfl⟩
    rw[<- hn9] at hE4
    rw[<- hn9]
    have hap:∀ kk:EP,(∀ H',J0 H' (n9)=some (.cells (U4 ((p++[v]).map fun (x:Nat)=>(x:Int))) 1)->(∀ i,i≠n9->i≠b->J0 H' i=J0 H4 i)->kk (.slice (some ⟨n9,0,none⟩) (p++[v]).length (p++[v]).length) H' (n9+1)) ->
      B5 (.slice (some ⟨b,0,none⟩) p.length p.length) (.slice (some ⟨m3+3,0,none⟩) 1 1) 1 8 H4 (n9) kk:=fun kk hkk=>by
     have:=Q64 (nx:=n9) (k:=kk) (bytes:=8) hg4 hs' (by rw[hlen];exact hp0) (J9 (cap:=1) g4 rfl (by omega)) rfl (by omega) (by rw[hlen];omega) (fun H' q1 q2=>by
      rw[hlen]
      have:=hkk H' (by rw[q1];simp[U4]) q2
      simpa using this)
     rwa [hlen] at this
    refine hap _ ?_
    intro H5 g5 f5
    have hle3:=e3.le
    have hE5:ExE aL N L q8 q4 q2 q12 H5 (n9+1):=(hE3.ext hE4).step (by omega) fun i hi=>by
     have a1:=hE3.l8;have a2:=hE3.l4;have a3:=hE3.l2;have a4:=hE3.l12
     exact f5 i (by omega) (by omega)
    have b1:=hE3.l8;have b2:=hE3.l4;have b3:=hE3.l2;have b4:=hE3.l12
    refine V22 (ih v (p++[v]) af (n9) 1 H5 (n9+1) hE5 g5 (.inr rfl) (by omega) ⟨by omega,by omega,by omega,by omega⟩ (by simp;omega) (by rw[List.getElem?_append_left hp0];exact h0) (by simp) hv (by omega)) ?_
    rintro r H6 m6 ⟨h6,k6⟩
    simp (disch:=first|omega|assumption|exact G0 (by assumption)|exact U10 (by assumption)|exact X0 (by omega)|fail) only[W0,hE5.g12]
    rw[exF,J55 hno hv (by rw[hok,hbit,decide_eq_true rfl];rfl),haf]
    refine⟨h6,⟨by have:=k6.le;omega,fun i hi hne => ?_⟩⟩
    rw[k6.get i (by omega) (by omega),f5 i (by omega) hne,hE4.get i (by omega)]
    exact e3.get i hi
   .have hdk':decide ((d:Int)=((k+1:Nat):Int))=false:=by simp;omega
    simp (config:={ maxSteps:=2000000 }) (disch:=first|omega|assumption|exact G0 (by assumption)|exact U10 (by assumption)|exact X0 (by omega)|fail) only[W0,hE3.g8,hE2.g8,hLk,hdk']
    exact hihq (q-1) _ _ _ (by omega) ⟨v+1,by omega,by simp,next (by rw[hbit,decide_eq_false hdk];rfl),e3⟩
end
end Go.Proofs.YtoiioigihocgbaaGreatDoor
namespace Go.Clo
theorem N34(t:TypeId)(A:Option Addr)(n c:Nat)(k:VP):D9 (.eqn true (.slice t)) [.slice A n c,.slice none 0 0] k=k (.bool A.isSome):=by
 have e:VF.ev (.eqn true (.slice t)) [.slice A n c,.slice none 0 0]=some (.bool A.isSome):=by cases A<;>rfl
 unfold D9;rw[e,J8];rfl
def Cyg(l:Nat):Prop:=l<=9/\(l=0\/3<=l)
theorem C110{d l:Nat}(hd:d<=7)(h:Cyg l):Cyg (cyD d l):=by
 unfold cyD
 split
 .exact⟨by omega,.inr (by omega)⟩
 .exact h
theorem Y100{aL:List Nat}{N v u l:Nat}(hd:∀ u w within,B75 aL N u w within<=7)(h:Cyg l):∀ w,Cyg (cyW aL N v u l w)
 | 0=>h
 | w+1=>by
  unfold cyW
  split
  .exact C110 (hd _ _ _) (Y100 hd h w)
  .exact Y100 hd h w
theorem E106{aL:List Nat}{N v l:Nat}(hd:∀ u w within,B75 aL N u w within<=7)(h:Cyg l):∀ u,Cyg (cyU aL N v l u)
 | 0=>h
 | u+1=>Y100 hd (E106 hd h u) u
theorem U93{aL:List Nat}{N:Nat}(hd:∀ u w within,B75 aL N u w within<=7):∀ v,Cyg (cyV aL N v)
 | 0=>⟨by show 0<=9;omega,.inl rfl⟩
 | v+1=>E106 hd (U93 hd v) N
theorem Q93{aL:List Nat}{N L s j:Nat}(h:scW aL N L s j≠[]):∀ d,scW aL N L s (j+d)=scW aL N L s j
 | 0=>rfl
 | d+1=>by
  have ih:=Q93 h d;rw[<- eH,scW,if_neg (fun hh=>h (by rw[<- ih];exact hh.1)),ih]
theorem R95{aL:List Nat}{N L s:Nat}(h:scV aL N L s≠[]):∀ d,scV aL N L (s+d)=scV aL N L s
 | 0=>rfl
 | d+1=>by
  have ih:=R95 h d;rw[<- eH,scV,if_neg (fun hh=>h (by rw[<- ih];exact hh)),ih]
end Go.Clo
namespace Go.Proofs.YtoiioigihocgbaaGreatDoor
open Go.Clo
section
variable {aL:List Nat} {N:Nat} (hN:N<=6) (hL:NbL aL N)
include hN hL
theorem C85 (H:Y0) (nx:Nat):Q2 Tryz.prog 30 [.int .i64 (N:Int),.agg ⟨K12 aL⟩] H nx fun r H' nx'=>LsR (scF aL N) r H' nx'/\D0 H nx H' nx':=by
 have hp64:2^N<=64:=Nat.pow_le_pow_right (n:=2) (by omega) hN
 have hp1:0<2^N:=Nat.two_pow_pos N
 have h32:=M44 hN hL
 have hcy:=U93 (aL:=aL) (N:=N) (fun u w within=>D81 hN hL) N
 refine spec30 ?_
 unfold F30
 simp (disch:=first|omega|assumption|exact G0 (by assumption)|exact U10 (by assumption)|exact X0 (by omega)|fail) only[W0,Q0.val,W5 aL]
 have hE0:D0 H nx (hs (hs H nx (some (.cells [.int .i64 (N:Int)] 0))) (nx+1) (some (.cells (K12 aL) 0))) (nx+1+1):=((D0.refl H nx).new _ (Nat.le_refl _) (m:=nx+1) (by omega)).new _ (by omega) (by omega)
 have g2:J0 (hs (hs H nx (some (.cells [.int .i64 (N:Int)] 0))) (nx+1) (some (.cells (K12 aL) 0))) nx=some (.cells [.int .i64 (N:Int)] 0):=by rw[Z1 _ (by omega),Z11]
 have g4:J0 (hs (hs H nx (some (.cells [.int .i64 (N:Int)] 0))) (nx+1) (some (.cells (K12 aL) 0))) (nx+1)=some (.cells (K12 aL) 0):=Z11 _ _ _
 generalize hs (hs H nx (some (.cells [.int .i64 (N:Int)] 0))) (nx+1) (some (.cells (K12 aL) 0))=H1 at *
 simp (disch:=first|omega|assumption|exact G0 (by assumption)|exact U10 (by assumption)|exact X0 (by omega)|fail) only[M18 h32]
 refine R0 (D89 hN hL _ _) ?_
 rintro _ H3 n3 ⟨rfl,h3⟩
 have g23:=(h3.get nx (by omega)).trans g2
 have g43:=(h3.get (nx+1) (by omega)).trans g4
 have hle3:=h3.le
 have hput:∀ a b:Value,B12 [a] 0 [b]=[b]:=fun _ _=>rfl
 simp (disch:=first|omega|assumption|exact G0 (by assumption)|exact U10 (by assumption)|exact X0 (by omega)|fail) only[W0,hput]
 have hE5:D0 H3 n3 (hs (hs H3 n3 (some (.cells [.int .i64 0] 0))) n3 (some (.cells [.int .i64 (cyV aL N N:Int)] 0))) (n3+1):=((D0.refl H3 n3).new _ (Nat.le_refl _) (m:=n3+1) (by omega)).hs (Nat.le_refl _)
 have g8:J0 (hs (hs H3 n3 (some (.cells [.int .i64 0] 0))) n3 (some (.cells [.int .i64 (cyV aL N N:Int)] 0))) n3=some (.cells [.int .i64 (cyV aL N N:Int)] 0):=Z11 _ _ _
 generalize hs (hs H3 n3 (some (.cells [.int .i64 0] 0))) n3 (some (.cells [.int .i64 (cyV aL N N:Int)] 0))=H5 at *
 have hE05:=(hE0.trans h3).trans hE5
 unfold scF
 generalize cyV aL N N=L at *
 by_cases hL0:L=0
 .simp (disch:=first|omega|assumption|exact G0 (by assumption)|exact U10 (by assumption)|exact X0 (by omega)|fail) only[W0,decide_eq_true hL0]
  rw[if_pos hL0]
  exact⟨C66 _ _,hE05⟩
 rw[if_neg hL0]
 have g25:=(hE5.get nx (by omega)).trans g23
 have g45:=(hE5.get (nx+1) (by omega)).trans g43
 simp (disch:=first|omega|assumption|exact G0 (by assumption)|exact U10 (by assumption)|exact X0 (by omega)|fail) only[W0,decide_eq_false hL0,g23]
 have hE7:D0 H5 (n3+1) (hs (hs H5 (n3+1) (some (.cells [.nilFunc] 0))) (n3+1) (some (.cells [.func (.func 64) ⟨[]⟩ ⟨[.pointer (some ⟨n3,0,none⟩),.pointer (some ⟨nx+1,0,none⟩),.pointer (some ⟨nx,0,none⟩),.pointer (some ⟨n3+1,0,none⟩)]⟩] 0))) (n3+1+1):=((D0.refl H5 (n3+1)).new _ (Nat.le_refl _) (m:=n3+1+1) (by omega)).hs (Nat.le_refl _)
 have g12:J0 (hs (hs H5 (n3+1) (some (.cells [.nilFunc] 0))) (n3+1) (some (.cells [.func (.func 64) ⟨[]⟩ ⟨[.pointer (some ⟨n3,0,none⟩),.pointer (some ⟨nx+1,0,none⟩),.pointer (some ⟨nx,0,none⟩),.pointer (some ⟨n3+1,0,none⟩)]⟩] 0))) (n3+1)=some (.cells [.func (.func 64) ⟨[]⟩ ⟨[.pointer (some ⟨n3,0,none⟩),.pointer (some ⟨nx+1,0,none⟩),.pointer (some ⟨nx,0,none⟩),.pointer (some ⟨n3+1,0,none⟩)]⟩] 0):=Z11 _ _ _
 generalize hs (hs H5 (n3+1) (some (.cells [.nilFunc] 0))) (n3+1) (some (.cells [.func (.func 64) ⟨[]⟩ ⟨[.pointer (some ⟨n3,0,none⟩),.pointer (some ⟨nx+1,0,none⟩),.pointer (some ⟨nx,0,none⟩),.pointer (some ⟨n3+1,0,none⟩)]⟩] 0))=H7 at *
 have g27:=(hE7.get nx (by omega)).trans g25
 have g47:=(hE7.get (nx+1) (by omega)).trans g45
 have g87:=(hE7.get n3 (by omega)).trans g8
 have hX:ExE aL N L n3 (nx+1) nx (n3+1) H7 (n3+1+1):=⟨g87,g47,g27,g12,by omega,by omega,by omega,by omega⟩
 have hE07:=hE05.trans hE7
 clear g12 g27 g47 g87 g25 g45 g8
 refine B1 (m:=N) (fun m L' H' nx'=>∃ s:Nat,m+s=N/\L'=[.int .i64 (s:Int)]/\scV aL N L s=[]/\D0 H7 (n3+1+1) H' nx') ?_ ⟨0,by omega,rfl,rfl,D0.refl _ _⟩
 rintro m ih L1 H8 n8 ⟨s,hm,rfl,hsV,e8⟩ hih
 have hX8:=hX.ext e8
 by_cases hs:s<N
 case neg=>
  obtain rfl:s=N:=by omega
  have hs':¬ (s:Int)<(s:Int):=by omega
  simp (disch:=first|omega|assumption|exact G0 (by assumption)|exact U10 (by assumption)|exact X0 (by omega)|fail) only[W0,hs']
  rw[hsV]
  exact⟨C66 _ _,hE07.trans e8⟩
 have hs':(s:Int)<(N:Int):=by omega
 simp (disch:=first|omega|assumption|exact G0 (by assumption)|exact U10 (by assumption)|exact X0 (by omega)|fail) only[W0,hs',hX8.g2]
 refine B1 (m:=N) (fun m L' H' nx'=>∃ j:Nat,m+j=N/\L'=[.int .i64 (j:Int)]/\scW aL N L s j=[]/\D0 H7 (n3+1+1) H' nx') ?_ ⟨0,by omega,rfl,rfl,e8⟩
 rintro m2 ih2 L1 H9 n9 ⟨j,hm2,rfl,hsW,e9⟩ hih2
 have hX9:=hX.ext e9
 by_cases hj:j<N
 case neg=>
  obtain rfl:j=N:=by omega
  have hj':¬ (j:Int)<(j:Int):=by omega
  simp (disch:=first|omega|assumption|exact G0 (by assumption)|exact U10 (by assumption)|exact X0 (by omega)|fail) only[W0,hj']
  exact hih (m-1) _ _ _ (by omega) ⟨s+1,by omega,by simp,by rw[scV,if_pos hsV];exact hsW,e9⟩
 have hj':(j:Int)<(N:Int):=by omega
 obtain⟨xs,gs,xs2,xsD⟩:=hL.at (u:=s) (by omega)
 have gs:=Q3 gs
 have xs32:xs<4294967296:=by omega
 have j32:j<32:=by omega
 have hnb:nbB aL s j=xs.testBit j:=by unfold nbB;rw[xsD]
 have next:scW aL N L s (j+1)=if s<j/\xs.testBit j=true then exF aL N s (L-2) j [s,j] 0 else []:=by
  rw[scW,hnb,hsW]
  by_cases h:s<j/\xs.testBit j=true
  .rw[if_pos ⟨rfl,h⟩,if_pos h]
  .rw[if_neg (fun hh=>h hh.2),if_neg h]
 have c1:decide ((j:Int) > (s:Int))=decide (s<j):=by congr 1;apply propext;omega
 simp (disch:=first|omega|assumption|exact G0 (by assumption)|exact U10 (by assumption)|exact X0 (by omega)|fail) only[W0,hj']
 rw[N13]
 refine N5 (fun L' H' nx'=>L'=[.bool (decide (s<j)&&xs.testBit j)]/\H9=H'/\n9=nx') ?_ ?_
 .intro jj hjj
  by_cases q:s<j
  .simp (disch:=first|omega|assumption|exact G0 (by assumption)|exact U10 (by assumption)|exact X0 (by omega)|fail) only[W0,c1,decide_eq_true q,hX9.g4,gs]
   exact hjj _ _ _ ⟨by simp[q],rfl,rfl⟩
  .simp (disch:=first|omega|assumption|exact G0 (by assumption)|exact U10 (by assumption)|exact X0 (by omega)|fail) only[W0,c1,decide_eq_false q]
   exact hjj _ _ _ ⟨by simp[q],rfl,rfl⟩
 rintro L1 _ _ ⟨rfl,rfl,rfl⟩
 by_cases hb:s<j/\xs.testBit j=true
 case neg=>
  have hb':(decide (s<j)&&xs.testBit j)=false:=by
   rw[Bool.eq_false_iff]
   intro h
   rw[Bool.and_eq_true,decide_eq_true_iff] at h
   exact hb h
  rw[hb']
  simp (disch:=first|omega|assumption|exact G0 (by assumption)|exact U10 (by assumption)|exact X0 (by omega)|fail) only[W0]
  exact hih2 (m2-1) _ _ _ (by omega) ⟨j+1,by omega,by simp,by rw[next,if_neg hb],e9⟩
 have hb':(decide (s<j)&&xs.testBit j)=true:=by rw[Bool.and_eq_true,decide_eq_true_iff];exact hb
 rw[hb']
 rw[if_pos hb] at next
 have hbs:∀ (x y:Int) k,K6 2 1 [.int .i64 0] [(0,.int .i64 x),(1,.int .i64 y)] k=k [.int .i64 x,.int .i64 y]:=fun x y k=>rfl
 simp (disch:=first|omega|assumption|exact G0 (by assumption)|exact U10 (by assumption)|exact X0 (by omega)|fail) only[W0,hX9.g12,hbs]
 have hE10:D0 H9 n9 (Go.Clo.hs H9 n9 (some (.cells [.int .i64 (s:Int),.int .i64 (j:Int)] 0))) (n9+1):=(D0.refl _ _).new _ (Nat.le_refl _) (by omega)
 have g10:J0 (Go.Clo.hs H9 n9 (some (.cells [.int .i64 (s:Int),.int .i64 (j:Int)] 0))) n9=some (.cells [.int .i64 (s:Int),.int .i64 (j:Int)] 0):=Z11 _ _ _
 generalize Go.Clo.hs H9 n9 (some (.cells [.int .i64 (s:Int),.int .i64 (j:Int)] 0))=H10 at *
 have hle9:=e9.le
 refine V22 (Z99 hN hL hs hcy.1 (L-2) j [s,j] 0 n9 0 H10 (n9+1) (hX9.ext hE10) g10 (.inl rfl) (by omega) ⟨by omega,by omega,by omega,by omega⟩ (by have:=hcy.2;simp;omega) rfl rfl hj hp1) ?_
 rintro _ H11 n11 ⟨⟨A,rfl,hAn,hAS⟩,k11⟩
 rw[<- next] at hAn hAS ⊢
 have e11:D0 H7 (n3+1+1) H11 n11:=⟨by have:=k11.le;omega,fun i hi=>by rw[k11.get i (by omega) (by omega),hE10.get i (by omega)];exact e9.get i hi⟩
 by_cases hA:scW aL N L s (j+1)=[]
 .have hAn':=hAn.2 hA
  subst hAn'
  rw[hA]
  simp (disch:=first|omega|assumption|exact G0 (by assumption)|exact U10 (by assumption)|exact X0 (by omega)|fail) only[W0,N34,Option.isSome_none]
  exact hih2 (m2-1) _ _ _ (by omega) ⟨j+1,by omega,by simp,hA,e11⟩
 .have hAs:A.isSome=true:=by
   cases A with
   | none=>exact absurd (hAn.1 rfl) hA
   | some a=>rfl
  have k1:=Q93 hA (N-(j+1))
  rw[show j+1+(N-(j+1))=N by omega] at k1
  have k0:scV aL N L (s+1)=scW aL N L s (j+1):=by rw[scV,if_pos hsV,k1]
  have k2:=R95 (by rw[k0];exact hA:scV aL N L (s+1)≠[]) (N-(s+1))
  rw[show s+1+(N-(s+1))=N by omega] at k2
  simp (disch:=first|omega|assumption|exact G0 (by assumption)|exact U10 (by assumption)|exact X0 (by omega)|fail) only[W0,N34,hAs]
  rw[k2,k0]
  exact⟨⟨A,rfl,hAn,hAS⟩,hE07.trans e11⟩
end
section
variable {cl e i rest:Nat} {es:List Nat}
theorem Z95{x:Nat}(hx:x<64)(H:Y0)(nx:Nat):Q2 Tryz.prog 91 [.int .u32 (x:Int)] H nx fun r H' nx'=>r = .int .i64 (E9 x:Int)/\D0 H nx H' nx':=by
 refine spec91 ?_;unfold F91;refine R0 (R44 hx H nx) ?_;rintro _ H1 n1 ⟨rfl,h1⟩;simp(disch:=first|omega|assumption)only[W0];exact h1
def U82(es:List Nat)(cl rest i:Nat):Nat × Bool:=(es.take i).foldl (X78 cl rest) (0,false)
theorem C102(h:es[i]? = some e):U82 es cl rest (i+1)=X78 cl rest (U82 es cl rest i) e:=by
 unfold U82;rw[C7 h,List.foldl_append];rfl
def R80(es:List Nat)(cl rest i:Nat):Nat × Nat:=(es.take i).foldl (X74 cl rest) (0,0)
theorem C100(h:es[i]? = some e):R80 es cl rest (i+1)=X74 cl rest (R80 es cl rest i) e:=by
 unfold R80;rw[C7 h,List.foldl_append];rfl
section
variable {es aL:List Nat} {N:Nat} (hN:N<=6) (hsm:∀ e ∈ es,e<2^N) (hle:es.length<=8)
include hN hsm hle
theorem V86{cl rest:Nat}(a0:cl<2^N)(hr:rest<2^N)(A:Option Addr)(cap:Nat)(H:Y0)(nx:Nat)(hS:Sl H nx A (K12 es)):
  Q2 Tryz.prog 67 [gv (N:Int) A es.length cap,.int .u32 (cl:Int),.int .u32 (rest:Int)] H nx fun r H' nx'=>r = .tuple ⟨[.int .u32 ((C75 es cl rest).1:Int),.bool (C75 es cl rest).2]⟩/\D0 H nx H' nx':=by
 have a3:2^N<=64:=aK (n:=2) (by omega) hN;have Z:0<2^N:=aQ N;refine spec67 ?_;unfold F67;have Q:D0 H nx (hs H nx (some (.cells [.int .i64 (N:Int),.slice A es.length cap] 0))) (nx+1):=(D0.refl H nx).new _ (aD _) (by omega);simp(disch:=first|omega|assumption)only[W0,Z0,Q0.val];generalize hs H nx (some (.cells [.int .i64 (N:Int),.slice A es.length cap] 0))=H1 at *
 refine B1 (m:=es.length) (fun m L H' nx'=>∃ i:Nat,m+i=es.length/\L=[.int .u32 ((U82 es cl rest i).1:Int),.bool (U82 es cl rest i).2,.int .i64 (i:Int)]/\D0 H1 (nx+1) H' nx') ?_ ⟨0,by omega,rfl,D0.refl _ _⟩;rintro m ih L H2 n2 ⟨i,hm,rfl,e2⟩ a1
 by_cases hi:i<es.length
 case neg=>
  obtain rfl:i=es.length:=by omega
  have J:¬ (es.length:Int)<(es.length:Int):=by omega
  simp(disch:=first|omega|assumption)only[W0,J];have e:U82 es cl rest es.length=C75 es cl rest:=by unfold U82 C75;rw[List.take_length]
  rw[e];exact⟨rfl,Q.trans e2⟩
 have J:(i:Int)<(es.length:Int):=by omega
 obtain⟨e,he⟩:∃ e,es[i]? = some e:=⟨_,aE hi⟩
 have a7:=hsm e (aH he);obtain⟨B,o,row,rfl,a4,U,V⟩:=(hS.ext (Q.trans e2)).open (i:=i) (by rw[E1];omega);have q0:=V _ _ (Q3 he);have hb:=X91 (cl:=cl) hr (es.take i) (0,false) Z;have next:=C102 (cl:=cl) (rest:=rest) he;change (U82 es cl rest i).1<2^N at hb;generalize U82 es cl rest i=s at *
 obtain⟨b,cov⟩:=s;dsimp only at hb ⊢;have a6:Z2 rest e<2^N:=Z6 hr;have a5:Z2 cl e<2^N:=Z6 a0;have a8:e<4294967296:=by omega
 have a2:cl<4294967296:=by omega
 have W:rest<4294967296:=by omega
 have z1:decide ((Z2 cl e:Int)=0)=decide (Z2 cl e=0):=by congr 1;apply propext;omega
 simp(disch:=first|omega|assumption)only[W0,J,X3 U,q0];refine N5 (fun L' H' nx'=>L'=[.int .u32 ((X78 cl rest (b,cov) e).1:Int),.bool (X78 cl rest (b,cov) e).2]/\D0 H1 (nx+1) H' nx') ?_ ?_
 case refine_2=>
  rintro L H3 n3 ⟨rfl,e3⟩;exact a1 (m-1) _ _ _ (by omega) ⟨i+1,by omega,by rw[next];simp,e3⟩
 intro j hj;refine N5 (fun L' H' nx'=>L'=[.bool (decide (Z2 cl e=0)&&(!cov || decide (E9 (Z2 rest e)<E9 b)))]/\D0 H1 (nx+1) H' nx') ?_ ?_
 .intro jj E
  by_cases k0:Z2 cl e=0
  .cases cov with
   | false=>
    simp(disch:=first|omega|assumption)only[W0,decide_eq_true k0];exact E _ _ _ ⟨by simp[k0],e2⟩
   | true=>
    simp(disch:=first|omega|assumption)only[W0,decide_eq_true k0];refine R0 (Z95 (by omega) _ _) ?_;rintro _ H3 n3 ⟨rfl,h3⟩;refine R0 (Z95 (by omega) _ _) ?_;rintro _ H4 n4 ⟨rfl,h4⟩;have c1:decide ((E9 (Z2 rest e):Int)<(E9 b:Int))=decide (E9 (Z2 rest e)<E9 b):=by congr 1;apply propext;omega
    simp(disch:=first|omega|assumption)only[W0,c1];exact E _ _ _ ⟨by simp[k0],(e2.trans h3).trans h4⟩
  .simp(disch:=first|omega|assumption)only[W0,decide_eq_false k0]
   exact E _ _ _ ⟨by simp[k0],e2⟩
 rintro L H3 n3 ⟨rfl,e3⟩
 by_cases hc:Z2 cl e=0/\(cov=false\/E9 (Z2 rest e)<E9 b)
 .have O:(decide (Z2 cl e=0)&&(!cov || decide (E9 (Z2 rest e)<E9 b)))=true:=by
   rw[aG,cO,decide_eq_true_iff,decide_eq_true_iff];exact⟨hc.1,hc.2.imp (fun h=>by rw[h];rfl) id⟩
  have hs:X78 cl rest (b,cov) e=(Z2 rest e,true):=if_pos hc;rw[hs] at hj;rw[O];simp(disch:=first|omega|assumption)only[W0];exact hj _ _ _ ⟨rfl,e3⟩
 .have O:(decide (Z2 cl e=0)&&(!cov || decide (E9 (Z2 rest e)<E9 b)))=false:=by
   rw[bN];intro h;rw[aG,cO,decide_eq_true_iff,decide_eq_true_iff] at h;exact hc ⟨h.1,h.2.imp (fun h=>by simpa using h) id⟩
  have hs:X78 cl rest (b,cov) e=(b,cov):=if_neg hc;rw[hs] at hj;rw[O];simp(disch:=first|omega|assumption)only[W0];exact hj _ _ _ ⟨rfl,e3⟩
theorem M84{cl rest:Nat}(a0:cl<2^N)(hr:rest<2^N)(A:Option Addr)(cap:Nat)(H:Y0)(nx:Nat)(hS:Sl H nx A (K12 es)):
  Q2 Tryz.prog 68 [gv (N:Int) A es.length cap,.int .u32 (cl:Int),.int .u32 (rest:Int)] H nx fun r H' nx'=>r = .int .i64 ((C82 es cl rest).1:Int)/\D0 H nx H' nx':=by
 have a2:2^N<=64:=aK (n:=2) (by omega) hN;have Z:0<2^N:=aQ N;refine spec68 ?_;unfold F68;have Q:D0 H nx (hs H nx (some (.cells [.int .i64 (N:Int),.slice A es.length cap] 0))) (nx+1):=(D0.refl H nx).new _ (aD _) (by omega);simp(disch:=first|omega|assumption)only[W0,Z0,Q0.val];generalize hs H nx (some (.cells [.int .i64 (N:Int),.slice A es.length cap] 0))=H1 at *
 refine B1 (m:=es.length) (fun m L H' nx'=>∃ i:Nat,m+i=es.length/\L=[.int .i64 ((R80 es cl rest i).1:Int),.int .u32 ((R80 es cl rest i).2:Int),.int .i64 (i:Int)]/\H1=H'/\nx+1=nx') ?_ ⟨0,by omega,rfl,rfl,rfl⟩;rintro m ih L _ _ ⟨i,hm,rfl,rfl,rfl⟩ O
 by_cases hi:i<es.length
 case neg=>
  obtain rfl:i=es.length:=by omega
  have E:¬ (es.length:Int)<(es.length:Int):=by omega
  simp(disch:=first|omega|assumption)only[W0,E];have e:R80 es cl rest es.length=C82 es cl rest:=by unfold R80 C82;rw[List.take_length]
  rw[e];exact⟨rfl,Q⟩
 have E:(i:Int)<(es.length:Int):=by omega
 obtain⟨e,he⟩:∃ e,es[i]? = some e:=⟨_,aE hi⟩
 have a7:=hsm e (aH he);obtain⟨B,o,row,rfl,a8,U,V⟩:=(hS.ext Q).open (i:=i) (by rw[E1];omega);have q0:=V _ _ (Q3 he);have hb:=E98 (cl:=cl) hr (es.take i) (0,0) Z;have J:=V98 (cl:=cl) (rest:=rest) (es.take i) (0,0);have next:=C100 (cl:=cl) (rest:=rest) he;rw[cK] at J;change (R80 es cl rest i).2<2^N at hb;change (R80 es cl rest i).1<=0+_ at J;generalize R80 es cl rest i=s at *
 obtain⟨c,us⟩:=s;dsimp only at hb J ⊢;have a6:Z2 rest e<2^N:=Z6 hr;have a5:Z2 cl e<2^N:=Z6 a0;have a9:e<4294967296:=by omega
 have a1:cl<4294967296:=by omega
 have W:rest<4294967296:=by omega
 have a3:Z2 rest e<4294967296:=by omega
 have a4:us<4294967296:=by omega
 have z1:decide ((Z2 cl e:Int)=0)=decide (Z2 cl e=0):=by congr 1;apply propext;omega
 have z2:decide (((Z2 rest e &&& us:Nat):Int)=0)=decide (Z2 rest e &&& us=0):=by congr 1;apply propext;omega
 simp(disch:=first|omega|assumption)only[W0,E,X3 U,q0];rw[N13]
 by_cases k0:Z2 cl e=0
 .by_cases k1:Z2 rest e &&& us=0
  .have hs:X74 cl rest (c,us) e=(c+1,us ||| Z2 rest e):=if_pos ⟨k0,k1⟩
   simp(disch:=first|omega|assumption)only[W0,N13,decide_eq_true k0,decide_eq_true k1];exact O (m-1) _ _ _ (by omega) ⟨i+1,by omega,by rw[next,hs];simp,rfl,rfl⟩
  .have hs:X74 cl rest (c,us) e=(c,us):=if_neg fun h=>k1 h.2
   simp(disch:=first|omega|assumption)only[W0,N13,decide_eq_true k0,decide_eq_false k1];exact O (m-1) _ _ _ (by omega) ⟨i+1,by omega,by rw[next,hs];simp,rfl,rfl⟩
 .have hs:X74 cl rest (c,us) e=(c,us):=if_neg fun h=>k0 h.1
  simp(disch:=first|omega|assumption)only[W0,N13,decide_eq_false k0];exact O (m-1) _ _ _ (by omega) ⟨i+1,by omega,by rw[next,hs];simp,rfl,rfl⟩
end
structure PoE (es aL:List Nat) (N:Nat) (A:Option Addr) (cap q2 q17 q4:Nat) (H:Y0) (m:Nat):Prop where
 g2:J0 H q2=some (.cells [.int .i64 (N:Int),.slice A es.length cap] 0)
 g4:J0 H q4=some (.cells (K12 aL) 0)
 g17:J0 H q17=some (.cells [.func (.func 66) ⟨[]⟩ ⟨[.pointer (some ⟨q2,0,none⟩),.pointer (some ⟨q17,0,none⟩),.pointer (some ⟨q4,0,none⟩)]⟩] 0)
 eS:Sl H m A (K12 es)
 l2:q2<m
 l4:q4<m
 l17:q17<m
theorem PoE.ext{es aL:List Nat}{N:Nat}{A:Option Addr}{cap q2 q17 q4:Nat}{H:Y0}{m:Nat}(h:PoE es aL N A cap q2 q17 q4 H m){H':Y0}{m':Nat}(e:D0 H m H' m'):PoE es aL N A cap q2 q17 q4 H' m':=by
 have a1:=h.l2;have a2:=h.l4;have a3:=h.l17;have a4:=e.le;exact⟨(e.get _ a1).trans h.g2,(e.get _ a2).trans h.g4,(e.get _ a3).trans h.g17,h.eS.ext e,by omega,by omega,by omega⟩
section
variable {es aL:List Nat} {N:Nat} (hN:N<=6) (hsm:∀ e ∈ es,e<2^N) (hle:es.length<=8) (hL:NbL aL N)
include hN hsm hle hL
theorem C84 {A:Option Addr} {cap q2 q17 q4:Nat}:∀ (c cl rest:Nat) (H:Y0) (m:Nat),c<=100->cl<2^N->rest<2^N->PoE es aL N A cap q2 q17 q4 H m ->
  Q2 Tryz.prog 66 [.int .u32 (cl:Int),.int .u32 (rest:Int),.int .i64 (c:Int),.pointer (some ⟨q2,0,none⟩),.pointer (some ⟨q17,0,none⟩),.pointer (some ⟨q4,0,none⟩)] H m
   fun r H' m'=>r = .bool (W51 es aL N c cl rest)/\D0 H m H' m':=by
 have hp64:2^N<=64:=Nat.pow_le_pow_right (n:=2) (by omega) hN
 have hp1:0<2^N:=Nat.two_pow_pos N
 intro c
 induction c with
 | zero=>
  intro cl rest H m hc100 hcl hr hP
  refine spec66 ?_
  unfold F66
  simp (disch:=first|omega|assumption|exact G0 (by assumption)|exact U10 (by assumption)|exact X0 (by omega)|fail) only[W0,hP.g2,C13]
  refine R0 (V86 hN hsm hle hcl hr A cap _ _ hP.eS) ?_
  rintro _ H1 n1 ⟨rfl,h1⟩
  have hP1:=hP.ext h1
  have hd:=Z107 (es:=es) (cl:=cl) (rest:=rest)
  unfold W51
  generalize C75 es cl rest=s at *
  obtain⟨out,cov⟩:=s
  dsimp only at hd ⊢
  cases cov with
  | false=>
   simp (disch:=first|omega|assumption|exact G0 (by assumption)|exact U10 (by assumption)|exact X0 (by omega)|fail) only[W0]
   exact h1
  | true=>
   have hd:=hd rfl
   simp (disch:=first|omega|assumption|exact G0 (by assumption)|exact U10 (by assumption)|exact X0 (by omega)|fail) only[W0]
   refine N5 (fun L' H' nx'=>L'=[.bool true]/\D0 H m H' nx') ?_ ?_
   .intro jj hjj
    by_cases k0:out=0
    .subst k0
     simp (disch:=first|omega|assumption|exact G0 (by assumption)|exact U10 (by assumption)|exact X0 (by omega)|fail) only[W0]
     exact hjj _ _ _ ⟨rfl,h1⟩
    .simp (disch:=first|omega|assumption|exact G0 (by assumption)|exact U10 (by assumption)|exact X0 (by omega)|fail) only[W0,decide_eq_false k0,hP1.g2,C13]
     refine R0 (M84 hN hsm hle hcl hr A cap _ _ hP1.eS) ?_
     rintro _ H2 n2 ⟨rfl,h2⟩
     simp (disch:=first|omega|assumption|exact G0 (by assumption)|exact U10 (by assumption)|exact X0 (by omega)|fail) only[W0]
     exact hjj _ _ _ ⟨by simp;omega,h1.trans h2⟩
   .rintro L H2 n2 ⟨rfl,h2⟩
    simp (disch:=first|omega|assumption|exact G0 (by assumption)|exact U10 (by assumption)|exact X0 (by omega)|fail) only[W0]
    exact h2
 | succ c ih=>
  intro cl rest H m hc100 hcl hr hP
  refine spec66 ?_
  unfold F66
  simp (disch:=first|omega|assumption|exact G0 (by assumption)|exact U10 (by assumption)|exact X0 (by omega)|fail) only[W0,hP.g2,C13]
  refine R0 (V86 hN hsm hle hcl hr A cap _ _ hP.eS) ?_
  rintro _ H1 n1 ⟨rfl,h1⟩
  have hP1:=hP.ext h1
  unfold W51
  have hout:=X91 (cl:=cl) hr es (0,false) hp1
  change (C75 es cl rest).1<2^N at hout
  generalize C75 es cl rest=s at *
  obtain⟨out,cov⟩:=s
  dsimp only at hout ⊢
  cases cov with
  | false=>
   simp (disch:=first|omega|assumption|exact G0 (by assumption)|exact U10 (by assumption)|exact X0 (by omega)|fail) only[W0]
   exact⟨rfl,h1⟩
  | true=>
   simp (disch:=first|omega|assumption|exact G0 (by assumption)|exact U10 (by assumption)|exact X0 (by omega)|fail) only[W0]
   refine N5 (fun L' H' nx'=>L'=[.bool (!(decide (out≠0)&&decide ((C82 es cl rest).1<=c+1)))]/\D0 H m H' nx') ?_ ?_
   .intro jj hjj
    by_cases k0:out=0
    .subst k0
     simp (disch:=first|omega|assumption|exact G0 (by assumption)|exact U10 (by assumption)|exact X0 (by omega)|fail) only[W0]
     exact hjj _ _ _ ⟨by simp,h1⟩
    .simp (disch:=first|omega|assumption|exact G0 (by assumption)|exact U10 (by assumption)|exact X0 (by omega)|fail) only[W0,decide_eq_false k0,hP1.g2,C13]
     refine R0 (M84 hN hsm hle hcl hr A cap _ _ hP1.eS) ?_
     rintro _ H2 n2 ⟨rfl,h2⟩
     have z2:decide (((C82 es cl rest).1:Int) > ((c+1:Nat):Int)) = !decide ((C82 es cl rest).1<=c+1):=by
      rw[Bool.eq_iff_iff,decide_eq_true_iff,Bool.not_eq_true',decide_eq_false_iff_not];omega
     simp (disch:=first|omega|assumption|exact G0 (by assumption)|exact U10 (by assumption)|exact X0 (by omega)|fail) only[W0,z2]
     exact hjj _ _ _ ⟨by simp[k0],h1.trans h2⟩
   rintro L H2 n2 ⟨rfl,h2⟩
   have hP2:=hP.ext h2
   cases hgo:decide (out≠0)&&decide ((C82 es cl rest).1<=c+1) with
   | false=>
    simp (disch:=first|omega|assumption|exact G0 (by assumption)|exact U10 (by assumption)|exact X0 (by omega)|fail) only[W0]
    exact⟨rfl,h2⟩
   | true=>
    simp (disch:=first|omega|assumption|exact G0 (by assumption)|exact U10 (by assumption)|exact X0 (by omega)|fail) only[W0,hP2.g2]
    refine B1 (m:=N) (fun q L' H' nx'=>∃ v:Nat,q+v=N/\L'=[.int .u32 (N71 rest out v:Int),.int .i64 (v:Int)]/\(∀ u,u<v->(out.testBit u&&W51 es aL N c (cl ||| 2^u) (N71 rest out (u+1) &&& aL.getD u 0))=false)/\D0 H m H' nx') ?_ ⟨0,by omega,rfl,fun u h=>by omega,h2⟩
    rintro q ihq L' H3 n3 ⟨v,hq,rfl,hno,e3⟩ hihq
    have hP3:=hP.ext e3
    have hrl:=D85 (out:=out) hr v
    have hrl1:=D85 (out:=out) hr (v+1)
    by_cases hv:v<N
    case neg=>
     obtain rfl:v=N:=by omega
     have hv':¬ (v:Int)<(v:Int):=by omega
     simp (disch:=first|omega|assumption|exact G0 (by assumption)|exact U10 (by assumption)|exact X0 (by omega)|fail) only[W0,hv']
     refine⟨?_,e3⟩
     have:((List.range v).any fun u=>out.testBit u&&W51 es aL v c (cl ||| 2^u) (N71 rest out (u+1) &&& aL.getD u 0))=false:=by
      rw[Bool.eq_false_iff]
      intro h
      obtain⟨u,hu1,hu2⟩:=List.any_eq_true.1 h
      rw[hno u (by simpa using hu1)] at hu2
      cases hu2
     rw[this];rfl
    have hv':(v:Int)<(N:Int):=by omega
    have v32:v<32:=by omega
    have out32:out<4294967296:=by omega
    have next:(out.testBit v&&W51 es aL N c (cl ||| 2^v) (N71 rest out (v+1) &&& aL.getD v 0))=false->∀ u,u<v+1->(out.testBit u&&W51 es aL N c (cl ||| 2^u) (N71 rest out (u+1) &&& aL.getD u 0))=false:=fun h u hu=>by
     by_cases e:u=v
     .subst e;exact h
     .exact hno u (by omega)
    obtain⟨xv,gv',xv2,xvD⟩:=hL.at v32
    have gv':=Q3 gv'
    have hstep:N71 rest out (v+1)=if out.testBit v=true then Z2 (N71 rest out v) (2^v) else N71 rest out v:=rfl
    cases hbit:out.testBit v with
    | false=>
     rw[hbit,if_neg (by simp)] at hstep
     simp (disch:=first|omega|assumption|exact G0 (by assumption)|exact U10 (by assumption)|exact X0 (by omega)|fail) only[W0,hv',N13,hbit]
     exact hihq (q-1) _ _ _ (by omega) ⟨v+1,by omega,by rw[hstep];simp,next (by rw[hbit];rfl),e3⟩
    | true=>
     rw[hbit,if_pos rfl] at hstep
     rw[hstep] at hrl1
     have pv2:=R27 hv
     have pv:2^v<4294967296:=by omega
     have cl32:cl<4294967296:=by omega
     have rl32:N71 rest out v<4294967296:=by omega
     have rl1:Z2 (N71 rest out v) (2^v)<4294967296:=by omega
     have xv32:xv<4294967296:=by omega
     have clv:cl ||| 2^v<2^N:=Z26 hcl pv2
     have rv:Z2 (N71 rest out v) (2^v) &&& xv<2^N:=W37 hrl1
     have ec:((c+1:Nat):Int)-1=(c:Int):=by omega
     simp (disch:=first|omega|assumption|exact G0 (by assumption)|exact U10 (by assumption)|exact X0 (by omega)|fail) only[W0,hv',N13,hbit,hP3.g17,hP3.g4,gv',ec]
     refine V22 (ih (cl ||| 2^v) (Z2 (N71 rest out v) (2^v) &&& xv) H3 (n3+13) (by omega) clv rv (hP3.ext (D0.self (by omega)))) ?_
     rintro _ H4 n4 ⟨rfl,h4⟩
     have e4:=(e3.more (show n3<=n3+13 by omega)).trans h4
     have hval:W51 es aL N c (cl ||| 2^v) (N71 rest out (v+1) &&& aL.getD v 0)=W51 es aL N c (cl ||| 2^v) (Z2 (N71 rest out v) (2^v) &&& xv):=by rw[hstep,xvD]
     cases hp:W51 es aL N c (cl ||| 2^v) (Z2 (N71 rest out v) (2^v) &&& xv) with
     | true=>
      simp (disch:=first|omega|assumption|exact G0 (by assumption)|exact U10 (by assumption)|exact X0 (by omega)|fail) only[W0]
      refine⟨?_,e4⟩
      have:((List.range N).any fun u=>out.testBit u&&W51 es aL N c (cl ||| 2^u) (N71 rest out (u+1) &&& aL.getD u 0))=true:=List.any_eq_true.2 ⟨v,by simpa using hv,by rw[hbit,hval,hp];rfl⟩
      rw[this];rfl
     | false=>
      simp (disch:=first|omega|assumption|exact G0 (by assumption)|exact U10 (by assumption)|exact X0 (by omega)|fail) only[W0]
      exact hihq (q-1) _ _ _ (by omega) ⟨v+1,by omega,by rw[hstep];simp,next (by rw[hbit,hval,hp];rfl),e4⟩
end
end
end Go.Proofs.YtoiioigihocgbaaGreatDoor
namespace Go.Clo
theorem R104{es:List Nat}{i e:Nat}(h:es[i]? = some e):(es.take (i+1)).foldl (· ||| ·) 0=(es.take i).foldl (· ||| ·) 0 ||| e:=by
 rw[take_next' h,List.foldl_append];rfl
where
 take_next' {α:Type} {l:List α} {i:Nat} {x:α} (h:l[i]? = some x):l.take (i+1)=l.take i++[x]:=by
  rw[List.take_add_one,h];rfl
theorem K88{N:Nat}:∀ {es:List Nat} {a:Nat},(∀ e ∈ es,e<2^N)->a<2^N->es.foldl (· ||| ·) a<2^N
 | [],a,_,h=>h
 | e :: es,a,h,ha=>by
  rw[dF];exact K88 (fun x hx=>h x (by simp[hx])) (Z26 ha (h e (by simp)))
def G80(lo:Nat)(H:Y0)(nx:Nat)(v:Value)(l:List Nat):Prop:=Acc lo H nx 1 v l.length (U4 (l.map fun(x:Nat)=>(x:Int)))/\(l=[]->v = .slice none 0 0)
theorem G80.ext{lo:Nat}{H:Y0}{nx:Nat}{v:Value}{l:List Nat}{H':Y0}{nx':Nat}(h:G80 lo H nx v l)(e:D0 H nx H' nx'):G80 lo H' nx' v l:=⟨h.1.ext e,h.2⟩
theorem G80.ls{lo:Nat}{H:Y0}{nx:Nat}{v:Value}{l:List Nat}(h:G80 lo H nx v l):LsR l v H nx:=by
 obtain⟨A,rfl,hS⟩:=h.1.sl;refine⟨A,rfl,⟨fun e => ?_,fun e => ?_⟩,hS⟩
 .subst e
  cases l with
  | nil=>rfl
  | cons x l=>
   obtain⟨b,o,row,e,_⟩:=hS.open (i:=0) (by simp[U4])
   cases e
 .have:=h.2 e
  injection this
theorem G80.app{lo:Nat}{H:Y0}{nx b cap v:Nat}{sv:Value}{l:List Nat}{H0:Y0}{k:EP}(hA:G80 lo H nx sv l)(hg:J0 H b=some (.cells [.int .i64 (v:Int)] 0))(J:l.length<=1000)(hE:D0 H0 lo H nx)(E:lo<=nx)
  (hk:∀ v' H',G80 lo H' (nx+1) v' (l++[v])->D0 H0 lo H' (nx+1)->k v' H' (nx+1)):B5 sv (.slice (some ⟨b,0,none⟩) 1 cap) 1 8 H nx k:=by
 refine Y20 (H0:=H0) (by omega) hA.1 (J9 (cap:=cap) hg rfl (by omega)) (by omega) rfl (by omega) (by omega) hE E ?_;intro v' H' a1 a2 _;refine hk v' H' ⟨?_,fun e=>by simp at e⟩ a2;have e:U4 (l.map fun(x:Nat)=>(x:Int))++[.int .i64 (v:Int)]=U4 ((l++[v]).map fun(x:Nat)=>(x:Int)):=by simp[U4]
 rw[e] at a1;rw[bH];exact a1
theorem V90{es aL:List Nat}{N L lk:Nat}(E:lk<2^N):∀ v,v<=N->(W76 es aL N L lk v).2.1<2^N/\(W76 es aL N L lk v).2.2<2^N/\(W76 es aL N L lk v).1.length<=v
 | 0,_=>⟨aQ N,E,aD _⟩
 | v+1,hv=>by
  obtain⟨h1,h2,h3⟩:=V90 (es:=es) (aL:=aL) (L:=L) E v (by omega);have pv:2^v<2^N:=R27 (by omega);unfold W76 W99
  split
  .split
   .exact⟨Z26 h1 pv,W37 (Z6 h2),by simp;omega⟩
   .exact⟨h1,Z6 h2,by show(W76 es aL N L lk v).1.length<=v+1;omega⟩
  .exact⟨h1,h2,by omega⟩
end Go.Clo
namespace Go.Proofs.YtoiioigihocgbaaGreatDoor
open Go.Clo
section
variable {es aL:List Nat} {N:Nat} (hN:N<=6) (hsm:∀ e ∈ es,e<2^N) (hle:es.length<=8) (hL:NbL aL N)
include hN hsm hle hL
theorem D84 {most:Nat} (hmost:most<=50) (A:Option Addr) (cap:Nat) (H:Y0) (nx:Nat) (hS:Sl H nx A (K12 es)):
  Q2 Tryz.prog 31 [gv (N:Int) A es.length cap,.agg ⟨K12 aL⟩,.int .i64 (most:Int)] H nx fun r H' nx'=>LsR (D83 es aL N most) r H' nx'/\D0 H nx H' nx':=by
 have hp64:2^N<=64:=Nat.pow_le_pow_right (n:=2) (by omega) hN
 have hp1:0<2^N:=Nat.two_pow_pos N
 have hput:∀ a b:Value,B12 [a] 0 [b]=[b]:=fun _ _=>rfl
 refine spec31 ?_
 unfold F31
 have hE0:D0 H nx (hs (hs H nx (some (.cells [.int .i64 (N:Int),.slice A es.length cap] 0))) (nx+1) (some (.cells (K12 aL) 0))) (nx+1+1):=((D0.refl H nx).new _ (Nat.le_refl _) (m:=nx+1) (by omega)).new _ (by omega) (by omega)
 have g2:J0 (hs (hs H nx (some (.cells [.int .i64 (N:Int),.slice A es.length cap] 0))) (nx+1) (some (.cells (K12 aL) 0))) nx=some (.cells [.int .i64 (N:Int),.slice A es.length cap] 0):=by rw[Z1 _ (by omega),Z11]
 have g4:J0 (hs (hs H nx (some (.cells [.int .i64 (N:Int),.slice A es.length cap] 0))) (nx+1) (some (.cells (K12 aL) 0))) (nx+1)=some (.cells (K12 aL) 0):=Z11 _ _ _
 simp (disch:=first|omega|assumption|exact G0 (by assumption)|exact U10 (by assumption)|exact X0 (by omega)|fail) only[W0,Z0,Q0.val,W5 aL]
 generalize hs (hs H nx (some (.cells [.int .i64 (N:Int),.slice A es.length cap] 0))) (nx+1) (some (.cells (K12 aL) 0))=H1 at *
 refine B1 (m:=es.length) (fun m L' H' nx'=>∃ i:Nat,m+i=es.length/\L'=[.int .u32 ((es.take i).foldl (· ||| ·) 0:Nat),.int .i64 (i:Int)]/\H1=H'/\nx+1+1=nx') ?_ ⟨0,by omega,rfl,rfl,rfl⟩
 rintro m ih L1 _ _ ⟨i,hm,rfl,rfl,rfl⟩ hih
 have hlk:=K88 (es:=es.take i) (a:=0) (fun e he=>hsm e (List.mem_of_mem_take he)) hp1
 by_cases hi:i<es.length
 .have hi':(i:Int)<(es.length:Int):=by omega
  obtain⟨e,he⟩:∃ e,es[i]? = some e:=⟨_,List.getElem?_eq_getElem hi⟩
  have he2:=hsm e (List.mem_of_getElem? he)
  have e32:e<4294967296:=by omega
  have lk32:(es.take i).foldl (· ||| ·) 0<4294967296:=by omega
  obtain⟨B,o,row,rfl,hBn,hrow,hget⟩:=(hS.ext hE0).open (i:=i) (by rw[E1];omega)
  have q0:=hget _ _ (Q3 he)
  simp (disch:=first|omega|assumption|exact G0 (by assumption)|exact U10 (by assumption)|exact X0 (by omega)|fail) only[W0,hi',X3 hrow,q0]
  exact hih (m-1) _ _ _ (by omega) ⟨i+1,by omega,by rw[R104 he];simp,rfl,rfl⟩
 have hi':¬ (i:Int)<(es.length:Int):=by omega
 rw[List.take_of_length_le (by omega)] at hlk
 rw[List.take_of_length_le (show es.length<=i by omega)]
 clear hih
 have hor:es.foldl (· ||| ·) 0=Z7 es:=rfl
 rw[hor] at hlk ⊢
 unfold D83
 generalize Z7 es=lk at *
 by_cases h0:lk=0
 .simp (disch:=first|omega|assumption|exact G0 (by assumption)|exact U10 (by assumption)|exact X0 (by omega)|fail) only[W0,hi',decide_eq_true h0]
  rw[if_pos (.inl h0)]
  exact⟨C66 _ _,hE0⟩
 simp (disch:=first|omega|assumption|exact G0 (by assumption)|exact U10 (by assumption)|exact X0 (by omega)|fail) only[W0,hi',decide_eq_false h0,hput]
 have hE3:D0 H1 (nx+1+1) (hs (hs H1 (nx+1+1) (some (.cells [.nilFunc] 0))) (nx+1+1) (some (.cells [.func (.func 66) ⟨[]⟩ ⟨[.pointer (some ⟨nx,0,none⟩),.pointer (some ⟨nx+1+1,0,none⟩),.pointer (some ⟨nx+1,0,none⟩)]⟩] 0))) (nx+1+1+1):=((D0.refl H1 (nx+1+1)).new _ (Nat.le_refl _) (m:=nx+1+1+1) (by omega)).hs (Nat.le_refl _)
 have g17:J0 (hs (hs H1 (nx+1+1) (some (.cells [.nilFunc] 0))) (nx+1+1) (some (.cells [.func (.func 66) ⟨[]⟩ ⟨[.pointer (some ⟨nx,0,none⟩),.pointer (some ⟨nx+1+1,0,none⟩),.pointer (some ⟨nx+1,0,none⟩)]⟩] 0))) (nx+1+1)=some (.cells [.func (.func 66) ⟨[]⟩ ⟨[.pointer (some ⟨nx,0,none⟩),.pointer (some ⟨nx+1+1,0,none⟩),.pointer (some ⟨nx+1,0,none⟩)]⟩] 0):=Z11 _ _ _
 generalize hs (hs H1 (nx+1+1) (some (.cells [.nilFunc] 0))) (nx+1+1) (some (.cells [.func (.func 66) ⟨[]⟩ ⟨[.pointer (some ⟨nx,0,none⟩),.pointer (some ⟨nx+1+1,0,none⟩),.pointer (some ⟨nx+1,0,none⟩)]⟩] 0))=H3 at *
 have hX:PoE es aL N A cap nx (nx+1+1) (nx+1) H3 (nx+1+1+1):=⟨(hE3.get nx (by omega)).trans g2,(hE3.get (nx+1) (by omega)).trans g4,g17,(hS.ext hE0).ext hE3,by omega,by omega,by omega⟩
 have hE03:=hE0.trans hE3
 clear g2 g4 g17
 generalize hP:(fun L=>W51 es aL N L 0 lk)=P
 have hPv:∀ L,P L=W51 es aL N L 0 lk:=fun L=>by rw[<- hP]
 generalize hfull:B86 P (most-2) 3=full
 refine B1 (m:=most) (fun m L' H' nx'=>∃ k L:Nat,L'=[.int .i64 (L:Int)]/\B86 P k L=full/\(k+L=most+1\/(k=0/\most<L))/\(L<=most->m+L=most+3)/\3<=L/\L<=most+3/\D0 H3 (nx+1+1+1) H' nx') ?_
  ⟨most-2,3,rfl,hfull,by omega,by omega,by omega,by omega,D0.refl _ _⟩
 rintro m4 ih4 L1 H4 n4 ⟨k,L,rfl,hlen,hkL,hmL,hL3,hLm,e4⟩ hih4
 have hX4:=hX.ext e4
 have fin:∀ (r:Prop),(L<=most->P L=true->r)->(most<L->r)->(L<=most->P L=false->r)->r:=fun r h1 h2 h3=>by
  by_cases h:L<=most
  .cases hp:P L with
   | true=>exact h1 h hp
   | false=>exact h3 h hp
  .exact h2 (by omega)
 have c1:decide ((L:Int)<=(most:Int))=decide (L<=most):=by congr 1;apply propext;omega
 have c2:decide ((L:Int) > (most:Int))=decide (most<L):=by congr 1;apply propext;omega
 refine N5 (fun L' H' nx'=>L'=[.bool (decide (L<=most) && !P L)]/\D0 H3 (nx+1+1+1) H' nx') ?_ ?_
 .intro jj hjj
  by_cases hLe:L<=most
  .simp (disch:=first|omega|assumption|exact G0 (by assumption)|exact U10 (by assumption)|exact X0 (by omega)|fail) only[W0,c1,decide_eq_true hLe,hX4.g17]
   refine V22 (C84 hN hsm hle hL L 0 lk H4 n4 (by omega) hp1 hlk hX4) ?_
   rintro _ H5 n5 ⟨rfl,h5⟩
   simp (disch:=first|omega|assumption|exact G0 (by assumption)|exact U10 (by assumption)|exact X0 (by omega)|fail) only[W0]
   exact hjj _ _ _ ⟨by simp[hLe,hPv],e4.trans h5⟩
  .simp (disch:=first|omega|assumption|exact G0 (by assumption)|exact U10 (by assumption)|exact X0 (by omega)|fail) only[W0,c1,decide_eq_false hLe]
   exact hjj _ _ _ ⟨by simp[hLe],e4⟩
 rintro L1 H5 n5 ⟨rfl,e5⟩
 have hX5:=hX.ext e5
 by_cases hgo:L<=most/\P L=false
 .have hg:(decide (L<=most) && !P L)=true:=by simp[hgo.1,hgo.2]
  rw[hg]
  simp (disch:=first|omega|assumption|exact G0 (by assumption)|exact U10 (by assumption)|exact X0 (by omega)|fail) only[W0]
  obtain⟨k',rfl⟩:∃ k',k=k'+1:=⟨k-1,by omega⟩
  rw[B86,if_neg (by rw[hgo.2];simp)] at hlen
  exact hih4 (m4-1) _ _ _ (by omega) ⟨k',L+1,by simp,hlen,by omega,by omega,by omega,by omega,e5⟩
 have hg:(decide (L<=most) && !P L)=false:=by
  rw[Bool.eq_false_iff]
  intro h
  rw[Bool.and_eq_true,decide_eq_true_iff] at h
  exact hgo ⟨h.1,by simpa using h.2⟩
 rw[hg]
 have hfl:full=L:=by
  rcases hkL with h | ⟨h,_⟩
  .cases k with
   | zero=>exact hlen.symm
   | succ k=>
    have hp:P L=true:=by
     cases hp:P L with
     | true=>rfl
     | false=>exact absurd ⟨by omega,hp⟩ hgo
    rw[B86,if_pos hp] at hlen
    exact hlen.symm
  .subst h;exact hlen.symm
 by_cases hLe:L<=most
 case neg=>
  simp (disch:=first|omega|assumption|exact G0 (by assumption)|exact U10 (by assumption)|exact X0 (by omega)|fail) only[W0,c2,decide_eq_true (show most<L by omega)]
  rw[if_pos (.inr (by omega))]
  exact⟨C66 _ _,hE03.trans e5⟩
 rw[if_neg (by rw[hfl];omega),hfl]
 simp (disch:=first|omega|assumption|exact G0 (by assumption)|exact U10 (by assumption)|exact X0 (by omega)|fail) only[W0,c2,decide_eq_false (show ¬ most<L by omega),hX5.g2]
 refine B1 (m:=N) (fun q L' H' nx'=>∃ (v:Nat) (sv:Value),q+v=N/\L'=[sv,.int .u32 ((W76 es aL N L lk v).2.1:Int),.int .u32 ((W76 es aL N L lk v).2.2:Int),.int .i64 (v:Int)]/\G80 n5 H' nx' sv (W76 es aL N L lk v).1/\D0 H5 n5 H' nx') ?_
  ⟨0,_,by omega,rfl,⟨Acc.nil _ _ _ _,fun _=>rfl⟩,D0.refl _ _⟩
 rintro q ihq L1 H6 n6 ⟨v,sv,hq,rfl,hA,e6⟩ hihq
 have hX6:=hX5.ext e6
 by_cases hv:v<N
 case neg=>
  obtain rfl:v=N:=by omega
  have hv':¬ (v:Int)<(v:Int):=by omega
  simp (disch:=first|omega|assumption|exact G0 (by assumption)|exact U10 (by assumption)|exact X0 (by omega)|fail) only[W0,hv']
  exact⟨hA.ls,(hE03.trans e5).trans e6⟩
 have hv':(v:Int)<(N:Int):=by omega
 obtain⟨b1,b2,b3⟩:=V90 (es:=es) (aL:=aL) (L:=L) hlk v (by omega)
 have next:W76 es aL N L lk (v+1)=W99 es aL N L v (W76 es aL N L lk v):=rfl
 generalize W76 es aL N L lk v=s at *
 obtain⟨l,cl,r⟩:=s
 unfold W99 at next
 dsimp only at b1 b2 b3 hA next ⊢
 obtain⟨SA,rfl,hAn,hAS⟩:=hA.ls
 obtain⟨xv,gv',xv2,xvD⟩:=hL.at (u:=v) (by omega)
 have gv':=Q3 gv'
 have pv2:=R27 hv
 have pv:2^v<4294967296:=by omega
 have cl32:cl<4294967296:=by omega
 have r32:r<4294967296:=by omega
 have nd2:Z2 r (2^v)<2^N:=Z6 b2
 have nd32:Z2 r (2^v)<4294967296:=by omega
 have xv32:xv<4294967296:=by omega
 have clv2:cl ||| 2^v<2^N:=Z26 b1 pv2
 have ra2:Z2 r (2^v) &&& xv<2^N:=W37 nd2
 have v32:v<32:=by omega
 have hle6:=e6.le
 rw[xvD] at next
 cases hbit:r.testBit v with
 | false=>
  rw[hbit,if_neg (by simp)] at next
  simp (disch:=first|omega|assumption|exact G0 (by assumption)|exact U10 (by assumption)|exact X0 (by omega)|fail) only[W0,hv',N13,hbit]
  exact hihq (q-1) _ _ _ (by omega) ⟨v+1,.slice SA l.length l.length,by omega,by rw[next];simp,by rw[next];exact hA,e6⟩
 | true=>
  rw[hbit,if_pos rfl] at next
  simp (disch:=first|omega|assumption|exact G0 (by assumption)|exact U10 (by assumption)|exact X0 (by omega)|fail) only[W0,hv',hbit]
  rw[N13]
  have c3:decide ((l.length:Int)<(L:Int))=decide (l.length<L):=by congr 1;apply propext;omega
  refine N5 (fun L' H' nx'=>L'=[.bool (decide (l.length<L)&&W51 es aL N (L-l.length-1) (cl ||| 2^v) (Z2 r (2^v) &&& xv))]/\D0 H6 n6 H' nx') ?_ ?_
  .intro jj hjj
   by_cases hll:l.length<L
   .have ec:(L:Int)-(l.length:Int)-1=((L-l.length-1:Nat):Int):=by omega
    simp (disch:=first|omega|assumption|exact G0 (by assumption)|exact U10 (by assumption)|exact X0 (by omega)|fail) only[W0,c3,decide_eq_true hll,hX6.g17,hX6.g4,gv',ec]
    refine V22 (C84 hN hsm hle hL (L-l.length-1) (cl ||| 2^v) (Z2 r (2^v) &&& xv) H6 (n6+22) (by omega) clv2 ra2 (hX6.ext (D0.self (by omega)))) ?_
    rintro _ H7 n7 ⟨rfl,h7⟩
    exact hjj _ _ _ ⟨by simp[hll],h7.less (by omega)⟩
   .simp (disch:=first|omega|assumption|exact G0 (by assumption)|exact U10 (by assumption)|exact X0 (by omega)|fail) only[W0,c3,decide_eq_false hll]
    exact hjj _ _ _ ⟨by simp[hll],D0.self (by omega)⟩
  rintro L1 H7 n7 ⟨rfl,e7⟩
  have hX7:=hX6.ext e7
  have hle7:=e7.le
  by_cases hc:l.length<L/\W51 es aL N (L-l.length-1) (cl ||| 2^v) (Z2 r (2^v) &&& xv)=true
  .have hc':(decide (l.length<L)&&W51 es aL N (L-l.length-1) (cl ||| 2^v) (Z2 r (2^v) &&& xv))=true:=by rw[Bool.and_eq_true,decide_eq_true_iff];exact hc
   rw[hc']
   rw[if_pos hc] at next
   have hbs:∀ (x:Int) k,K6 1 1 [.int .i64 0] [(0,.int .i64 x)] k=k [.int .i64 x]:=fun x k=>rfl
   simp (disch:=first|omega|assumption|exact G0 (by assumption)|exact U10 (by assumption)|exact X0 (by omega)|fail) only[W0,hbs]
   have hE8:D0 H7 n7 (Go.Clo.hs H7 n7 (some (.cells [.int .i64 (v:Int)] 0))) (n7+1):=(D0.refl _ _).new _ (Nat.le_refl _) (by omega)
   have g8:J0 (Go.Clo.hs H7 n7 (some (.cells [.int .i64 (v:Int)] 0))) n7=some (.cells [.int .i64 (v:Int)] 0):=Z11 _ _ _
   generalize Go.Clo.hs H7 n7 (some (.cells [.int .i64 (v:Int)] 0))=H8 at *
   have e58:=(e6.trans e7).trans hE8
   refine G80.app (H0:=H5) (hA.ext (e7.trans hE8)) g8 (by omega) e58 (by omega) ?_
   intro v9 H9 hA9 e9
   have hX9:=hX5.ext e9
   simp (disch:=first|omega|assumption|exact G0 (by assumption)|exact U10 (by assumption)|exact X0 (by omega)|fail) only[W0,hX9.g4,gv']
   exact hihq (q-1) _ _ _ (by omega) ⟨v+1,v9,by omega,by rw[next];simp,by rw[next];exact hA9,e9⟩
  .have hc':(decide (l.length<L)&&W51 es aL N (L-l.length-1) (cl ||| 2^v) (Z2 r (2^v) &&& xv))=false:=by
    rw[Bool.eq_false_iff]
    intro h
    rw[Bool.and_eq_true,decide_eq_true_iff] at h
    exact hc h
   rw[hc']
   rw[if_neg hc] at next
   simp (disch:=first|omega|assumption|exact G0 (by assumption)|exact U10 (by assumption)|exact X0 (by omega)|fail) only[W0]
   exact hihq (q-1) _ _ _ (by omega) ⟨v+1,.slice SA l.length l.length,by omega,by rw[next];simp,by rw[next];exact hA.ext e7,e6.trans e7⟩
end
section
variable {i:Nat}
theorem W91{α:Type}{l:List α}{x:α}(h:l[i]? = some x):l.drop i=x :: l.drop (i+1):=by
 obtain⟨hi,rfl⟩:=aJ.1 h;exact List.drop_eq_getElem_cons hi
theorem E94{l:List Nat}{x:Nat}(h:l[i]? = some x):(U4 (l.map fun(x:Nat)=>(x:Int)))[i]? = some (.int .i64 (x:Int)):=Z9 (by rw[cP,h];rfl)
theorem J6(l:List Nat):(U4 (l.map fun(x:Nat)=>(x:Int))).length=l.length:=by rw[X9,gM]
theorem B96{a b:List Nat}{A B:Option Addr}{ca cb:Nat}{H:Y0}{nx:Nat}(hA:Sl H nx A (U4 (a.map fun(x:Nat)=>(x:Int))))(hB:Sl H nx B (U4 (b.map fun(x:Nat)=>(x:Int))))(ha:a.length<=1000)(hb:b.length<=1000):
  Q2 Tryz.prog 32 [.slice A a.length ca,.slice B b.length cb] H nx fun r H' nx'=>r = .int .i64 (X83 a b)/\D0 H nx H' nx':=by
 refine spec32 ?_;unfold F32;simp(disch:=first|omega|assumption)only[W0];refine B1 (m:=a.length) (fun m L H' nx'=>∃ i:Nat,m+i=a.length/\L=[.int .i64 (i:Int)]/\X83 a b=X83 (a.drop i) (b.drop i)/\i<=b.length/\H=H'/\nx=nx') ?_ ⟨0,by omega,rfl,rfl,by omega,rfl,rfl⟩;rintro m ih L _ _ ⟨i,hm,rfl,E,a4,rfl,rfl⟩ a1
 by_cases hi:i<a.length
 .have Q:(i:Int)<(a.length:Int):=by omega
  obtain⟨x,hx⟩:∃ x,a[i]? = some x:=⟨_,aE hi⟩
  obtain⟨P,o,row,rfl,a5,U,a0⟩:=hA.open (i:=i) (by rw[J6];omega);have q0:=a0 _ _ (E94 hx);rw[W91 hx] at E
  by_cases hj:i<b.length
  .have J:¬ (i:Int) ≥ (b.length:Int):=by omega
   obtain⟨y,hy⟩:∃ x,b[i]? = some x:=⟨_,aE hj⟩
   obtain⟨P2,o2,a2,rfl,a3,Z,V⟩:=hB.open (i:=i) (by rw[J6];omega);have q1:=V _ _ (E94 hy);rw[W91 hy] at E;simp(disch:=first|omega|assumption)only[W0,Q,J,X3 U,X3 Z,q0,q1];refine R0 (Y81 (x:Int) (y:Int) H nx) ?_;rintro _ _ _ ⟨rfl,rfl,rfl⟩;rw[show X83 (x :: a.drop (i+1)) (y :: b.drop (i+1))=if x<y then -1 else if y<x then 1 else X83 (a.drop (i+1)) (b.drop (i+1)) from rfl] at E
   by_cases h1:x<y
   .have O:(x:Int)<(y:Int):=by omega
    rw[if_pos O] ;rw[if_pos h1] at E;have d:decide ((-1:Int)≠0)=true:=by decide
    simp(disch:=first|omega|assumption)only[W0,d];exact⟨by rw[E],D0.refl _ _⟩
   .by_cases h2:y<x
    .have O:¬ (x:Int)<(y:Int):=by omega
     have W:(y:Int)<(x:Int):=by omega
     rw[if_neg O,if_pos W];rw[if_neg h1,if_pos h2] at E;have d:decide ((1:Int)≠0)=true:=by decide
     simp(disch:=first|omega|assumption)only[W0,d];exact⟨by rw[E],D0.refl _ _⟩
    .have O:¬ (x:Int)<(y:Int):=by omega
     have W:¬ (y:Int)<(x:Int):=by omega
     rw[if_neg O,if_neg W];rw[if_neg h1,if_neg h2] at E;have d:decide ((0:Int)≠0)=false:=by decide
     simp(disch:=first|omega|assumption)only[W0,d];exact a1 (m-1) _ _ _ (by omega) ⟨i+1,by omega,by simp,E,by omega,rfl,rfl⟩
  .have J:(i:Int) ≥ (b.length:Int):=by omega
   rw[cM (show b.length<=i by omega)] at E;simp(disch:=first|omega|assumption)only[W0,Q,J,X3 U,q0];exact⟨by rw[E];rfl,D0.refl _ _⟩
 .have Q:¬ (i:Int)<(a.length:Int):=by omega
  obtain rfl:i=a.length:=by omega
  rw[cM (aD _)] at E
  by_cases hj:a.length<b.length
  .have J:(a.length:Int)<(b.length:Int):=by omega
   simp(disch:=first|omega|assumption)only[W0,Q,J];obtain⟨y,hy⟩:∃ x,b[a.length]? = some x:=⟨_,aE hj⟩
   rw[W91 hy] at E;exact⟨by rw[E];rfl,D0.refl _ _⟩
  .have J:¬ (a.length:Int)<(b.length:Int):=by omega
   rw[cM (show b.length<=a.length by omega)] at E;simp(disch:=first|omega|assumption)only[W0,Q,J];exact⟨by rw[E];rfl,D0.refl _ _⟩
theorem R60(es:List Nat)(N:Nat):NbL (B2 es N) N:=⟨N9 es N,N30⟩
theorem C98{aL:List Nat}{N start:Nat}:∀(k last:Nat) (p:List Nat) (blk:Nat),(exF aL N start k last p blk).length<=p.length+k
 | 0,last,p,blk=>aD _
 | k+1,last,p,blk=>by
  unfold exF
  split
  .simp
  .have:=C98 (aL:=aL) (N:=N) (start:=start) k ‹_› (p++[‹_›]) (W87 aL blk last)
   rw[bH] at this;simp only[List.length_singleton] at this;omega
theorem K98{aL:List Nat}{N L s:Nat}:∀ j,(scW aL N L s j).length<=L+2
 | 0=>by simp[scW]
 | j+1=>by
  unfold scW
  split
  .have:=C98 (aL:=aL) (N:=N) (start:=s) (L-2) j [s,j] 0
   simp only[cV,List.length_nil] at this;omega
  .exact K98 j
theorem Z90{aL:List Nat}{N L:Nat}:∀ s,(scV aL N L s).length<=L+2
 | 0=>by simp[scV]
 | s+1=>by
  unfold scV
  split
  .exact K98 N
  .exact Z90 s
theorem K95{es aL:List Nat}{N most:Nat}(h:Z7 es<2^N):(D83 es aL N most).length<=N:=by
 unfold D83
 split
 .simp
 .exact(V90 h N (aD _)).2.2
theorem G79{N:Nat}(hN:N<=6)(A:Option Addr)(es:List Nat)(cap:Nat)(a1:∀ e ∈ es,e<2^N)(an:es.length<=8)(H:Y0)(nx:Nat)(hS:Sl H nx A (K12 es)):
  Q2 Tryz.prog 12 [gv (N:Int) A es.length cap] H nx fun r H' nx'=>(∃ v,r = .tuple ⟨[v,.bool (decide (Z74 es (B2 es N) N≠[]))]⟩/\LsR (Z74 es (B2 es N) N) v H' nx')/\D0 H nx H' nx':=by
 have ay:2^N<=64:=aK (n:=2) (by omega) hN;have ah:0<2^N:=aQ N;have a6:U14 es:=fun e he=>by have:=a1 e he;omega
 have al:N3 N es=0:=V11 (by omega) (by omega) fun i e he=>a1 e (aH he)
 refine spec12 ?_;unfold F12;have a5:D0 H nx (hs H nx (some (.cells [.int .i64 N,.slice A es.length cap] 0))) (nx+1):=(D0.refl H nx).new _ (aD _) (by omega);have k1:J0 (hs H nx (some (.cells [.int .i64 N,.slice A es.length cap] 0))) nx=some (.cells [.int .i64 N,.slice A es.length cap] 0):=Z11 _ _ _;simp(disch:=first|omega|assumption)only[W0,Z0,Q0.val,C13];generalize hs H nx (some (.cells [.int .i64 N,.slice A es.length cap] 0))=K at *
 refine R0 (N11 N A es cap _ _ (hS.ext a5) a6) ?_;rintro _ H2 nx2 ⟨rfl,a2⟩;have d1:decide (N3 N es≠0)=false:=by simp[al]
 have g2:=(a2.get nx (by omega)).trans k1;have b4:=a2.le;simp(disch:=first|omega|assumption)only[W0,d1,g2,C13];refine R0 (Q65 (by omega) A es cap _ _ (hS.ext (a5.trans a2)) a1 (by omega)) ?_;rintro _ H3 J ⟨rfl,a4⟩;have g3:=(a4.get nx (by omega)).trans g2;have b3:=a4.le;have e1:(K12 (B2 es N)).length=32:=by rw[E1];exact N9 es N
 have e2:(K12 (aF 32 0)).length=32:=by rw[E1];simp
 have e3:=G24 (c:=K12 (aF 32 0)) (vs:=K12 (B2 es N)) (by rw[e1,e2]);have e4:=W5 (B2 es N);rw[Q27];have aa:D0 H3 J (hs (hs H3 J (some (.cells (K12 (aF 32 0)) 0))) J (some (.cells (K12 (B2 es N)) 0))) (J+1):=((D0.refl _ _).new _ (aD _) (m:=J+1) (by omega)).hs (aD _);have a9:J0 (hs (hs H3 J (some (.cells (K12 (aF 32 0)) 0))) J (some (.cells (K12 (B2 es N)) 0))) J=some (.cells (K12 (B2 es N)) 0):=Z11 _ _ _;have ad:J0 (hs (hs H3 J (some (.cells (K12 (aF 32 0)) 0))) J (some (.cells (K12 (B2 es N)) 0))) nx=some (.cells [.int .i64 N,.slice A es.length cap] 0):=(aa.get nx (by omega)).trans g3;simp(disch:=first|omega|assumption)only[W0,e1,e2,e3,e4,g3,M18 e1];generalize hs (hs H3 J (some (.cells (K12 (aF 32 0)) 0))) J (some (.cells (K12 (B2 es N)) 0))=H4 at *
 have a3:=((a5.trans a2).trans a4).trans aa;have hL:=R60 es N;generalize B2 es N=aL at *
 refine R0 (C85 hN hL _ _) ?_;rintro _ H5 au ⟨ap,a0⟩;have b8:=Z90 (aL:=aL) (N:=N) (L:=cyV aL N N) N;have ax:=(U93 (aL:=aL) (N:=N) (fun u w within=>D81 hN hL) N).1;have az:(scF aL N).length<=11:=by
  unfold scF
  split
  .simp
  .omega
 have g5:=(a0.get nx (by omega)).trans ad;have av:=(a0.get J (by omega)).trans a9;have b5:=a0.le;have ak:Z7 es<2^N:=K88 a1 ah;have O:Z74 es aL N=X90 (scF aL N) (D83 es aL N (if scF aL N=[] then N else(scF aL N).length)):=rfl;generalize Z74 es aL N=ob at *
 generalize scF aL N=cy at *
 obtain⟨C,rfl,a8,ao⟩:=ap;obtain⟨most,E⟩:∃ most,most=if cy=[] then N else cy.length:=⟨_,rfl⟩
 rw[<- E] at O;have a7:most<=50:=by rw[E];split<;>omega
 have cz:decide (cy.length=0)=decide (cy=[]):=by
  congr 1;apply propext;exact dT
 simp(disch:=first|omega|assumption)only[W0];refine N5 (fun L' H' nx'=>L'=[.int .i64 (most:Int)]/\H5=H'/\au=nx') ?_ ?_
 .intro jj U
  by_cases h:cy=[]
  .rw[if_pos h] at E
   simp(disch:=first|omega|assumption)only[W0,cz,decide_eq_true h,g5];exact U _ _ _ ⟨by rw[E],rfl,rfl⟩
  .rw[if_neg h] at E
   simp(disch:=first|omega|assumption)only[W0,cz,decide_eq_false h];exact U _ _ _ ⟨by rw[E],rfl,rfl⟩
 rintro L1 _ _ ⟨rfl,rfl,rfl⟩;simp(disch:=first|omega|assumption)only[W0,g5,av,C13,M18 e1];have aj:=hS.ext (a3.trans a0);refine R0 (D84 hN a1 an hL a7 A cap _ _ aj) ?_;rintro _ H6 ai ⟨aw,ae⟩;have ba:=K95 (es:=es) (aL:=aL) (N:=N) (most:=most) ak;generalize D83 es aL N most=cq at *
 have Z:=(a3.trans a0).trans ae;obtain⟨Q,rfl,aq,ab⟩:=aw;have W:=ao.ext ae;have ac:decide (cq.length=0)=decide (cq=[]):=by
  congr 1;apply propext;exact dT
 by_cases h1:cq=[]
 .have cg:decide ((cy.length:Int) > 0)=decide (cy≠[]):=by
   congr 1;apply propext
   constructor
   .rintro h rfl;simp at h
   .intro h;have:=List.length_pos_iff.2 h;omega
  rw[X90,if_pos h1] at O;subst O;simp(disch:=first|omega|assumption)only[W0,ac,decide_eq_true h1,cg];exact⟨⟨_,rfl,C,rfl,a8,W⟩,Z⟩
 rw[X90,if_neg h1] at O;simp(disch:=first|omega|assumption)only[W0,ac,decide_eq_false h1];have cl:decide ((cq.length:Int)<(cy.length:Int))=decide (cq.length<cy.length):=by congr 1;apply propext;omega
 refine N5 (fun L' H' nx'=>L'=[.bool (decide (cy=[]\/cq.length<cy.length\/X83 cq cy<0))]/\D0 H6 ai H' nx') ?_ ?_
 .intro jj U
  by_cases h2:cy=[]
  .simp(disch:=first|omega|assumption)only[W0,cz,decide_eq_true h2]
   exact U _ _ _ ⟨by simp[h2],D0.refl _ _⟩
  by_cases h3:cq.length<cy.length
  .simp(disch:=first|omega|assumption)only[W0,cz,decide_eq_false h2,cl,decide_eq_true h3]
   exact U _ _ _ ⟨by simp[h3],D0.refl _ _⟩
  simp(disch:=first|omega|assumption)only[W0,cz,decide_eq_false h2,cl,decide_eq_false h3];refine R0 (B96 ab W (by omega) (by omega)) ?_;rintro _ H7 ag ⟨rfl,V⟩;simp(disch:=first|omega|assumption)only[W0];exact U _ _ _ ⟨by simp[h2,h3],V⟩
 rintro L1 H7 ag ⟨rfl,V⟩
 by_cases h2:cy=[]\/cq.length<cy.length\/X83 cq cy<0
 .rw[if_pos h2] at O
  subst O;simp(disch:=first|omega|assumption)only[W0,decide_eq_true h2];exact⟨⟨_,by rw[decide_eq_true (show ob≠[] from h1)],Q,rfl,aq,ab.ext V⟩,Z.trans V⟩
 .rw[if_neg h2] at O
  subst O;simp(disch:=first|omega|assumption)only[W0,decide_eq_false h2];exact⟨⟨_,by rw[decide_eq_true (show ob≠[] from fun h=>h2 (.inl h))],C,rfl,a8,W.ext V⟩,Z.trans V⟩
end
end Go.Proofs.YtoiioigihocgbaaGreatDoor
namespace Go.Clo
section
variable {k last:Nat}
def shG(aL:List Nat)(inn far lim:Nat):Nat->Nat->Nat->Nat->Option (Nat × Nat)
 | 0,_,_,_=>none
 | k+1,seen,b,st=>if b=0\/(lim≠0/\lim<st) then none else if Q4 aL b 32 &&& far≠0 then some (st,Q4 aL b 32 &&& far) else shG aL inn far lim k (seen ||| b) (Z2 (Q4 aL b 32 &&& inn) (seen ||| b)) (st+1)
def U5(aL:List Nat)(inn last:Nat):Nat->Nat
 | 0=>last
 | k+1=>Q4 aL (U5 aL inn last k) 32 &&& inn
def Q7(aL:List Nat)(inn last len first:Nat):Nat->Nat
 | 0=>first
 | k+1=>tz (U5 aL inn last (len-1-k) &&& aL.getD (Q7 aL inn last len first k) 0)
def lev(aL:List Nat)(inn b:Nat):Nat->Nat
 | 0=>b
 | k+1=>Q4 aL (lev aL inn b k) 32 &&& inn
section
variable {aL:List Nat} {inn far lim:Nat}
theorem K15{b0:Nat}:∀(k E b st:Nat) {r:Nat × Nat},(∀ w,b.testBit w=true->(lev aL inn b0 (st-2)).testBit w=true)->2<=st->shG aL inn far lim k E b st=some r ->
  2<=r.1/\(lim≠0->r.1<=lim)/\r.2≠0/\(∀ w,r.2.testBit w=true->far.testBit w=true)/\∃ u z,(lev aL inn b0 (r.1-2)).testBit u=true/\r.2.testBit z=true/\(aL.getD u 0).testBit z=true
 | 0,E,b,st,r,_,_,h=>by cases h
 | k+1,E,b,st,r,hb,h2,h=>by
  unfold shG at h
  split at h
  .cases h
  .rename_i h3
   split at h
   .rename_i h4
    cases h
    obtain⟨z,hz⟩:=B14 h4;have J:=hz;rw[bI,aG] at J;obtain⟨u,u1,u2,u3⟩:=Y7.1 J.1;refine⟨h2,fun hl => ?_,h4,fun w hw => ?_,u,z,hb u u2,hz,u3⟩
    .show st<=lim
     omega
    .rw[bI,aG] at hw
     exact hw.2
   .refine K15 k _ _ (st+1) (fun w hw => ?_) (by omega) h
    rw[N1,aG,bI,aG] at hw;rw[show st+1-2=(st-2)+1 by omega,lev,bI,aG];obtain⟨u,u1,u2,u3⟩:=Y7.1 hw.1.1;exact⟨Y7.2 ⟨u,u1,hb u u2,u3⟩,hw.1.2⟩
theorem R42 {N:Nat} (hi:inn<2^N) (hl:last<2^N):∀ k,U5 aL inn last k<2^N
 | 0=>hl
 | k+1=>Nat.lt_of_le_of_lt Nat.and_le_right hi
theorem R50{b:Nat}(hb:∀ w,b.testBit w=true->inn.testBit w=true):∀ k w,(lev aL inn b k).testBit w=true->inn.testBit w=true
 | 0,w,h=>hb w h
 | k+1,w,h=>by
  rw[lev,bI,aG] at h;exact h.2
variable (hsym:∀ u w,(aL.getD u 0).testBit w=true->(aL.getD w 0).testBit u=true) (h32:∀ u w,(aL.getD u 0).testBit w=true->w<32)
include hsym h32
theorem B51{b last:Nat}(hb:∀ w,b.testBit w=true->inn.testBit w=true):∀(j i:Nat),(∃ y,(lev aL inn b j).testBit y=true/\(U5 aL inn last i).testBit y=true)->∃ y,b.testBit y=true/\(U5 aL inn last (i+j)).testBit y=true
 | 0,i,⟨y,h1,h2⟩=>⟨y,h1,h2⟩
 | j+1,i,⟨y,h1,h2⟩=>by
  rw[lev,bI,aG] at h1;obtain⟨u,u1,u2,u3⟩:=Y7.1 h1.1;have:=B51 hb j (i+1) ⟨u,u2,by
   rw[U5,bI,aG];exact⟨Y7.2 ⟨y,h32 _ _ u3,h2,hsym _ _ u3⟩,R50 hb j u u2⟩⟩
  rw[show i+(j+1)=i+1+j by omega];exact this
theorem G55{first E st:Nat}{r:Nat × Nat}(h:shG aL inn far lim k E (aL.getD first 0 &&& inn) 2=some r):aL.getD first 0 &&& U5 aL inn r.2 (r.1-1)≠0:=by
 have hb:∀ w,(aL.getD first 0 &&& inn).testBit w=true->inn.testBit w=true:=fun w hw=>by
  rw[bI,aG] at hw;exact hw.2
 obtain⟨h1,h2,h3,h4,u,z,h5,h6,h7⟩:=K15 (b0:=aL.getD first 0 &&& inn) k E _ 2 (fun w hw=>hw) (aD _) h;obtain⟨y,y1,y2⟩:=B51 hsym h32 hb (last:=r.2) (r.1-2) 1 ⟨u,h5,by
  rw[U5,bI,aG];exact⟨Y7.2 ⟨z,h32 _ _ h7,h6,hsym _ _ h7⟩,R50 hb _ u h5⟩⟩
 rw[show 1+(r.1-2)=r.1-1 by omega] at y2;rw[bI,aG] at y1;intro e;have:(aL.getD first 0 &&& U5 aL inn r.2 (r.1-1)).testBit y=true:=by rw[bI,y1.1,y2];rfl
 rw[e] at this;simp at this
theorem V61{E:Nat}(h:(U5 aL inn last (k+1)).testBit E=true):U5 aL inn last k &&& aL.getD E 0≠0:=by
 rw[U5,bI,aG] at h;obtain⟨u,u1,u2,u3⟩:=Y7.1 h.1;intro e;have:(U5 aL inn last k &&& aL.getD E 0).testBit u=true:=by rw[bI,u2,hsym _ _ u3];rfl
 rw[e] at this;simp at this
end
def shN(i:Nat)(r:Option (Nat × Nat))(s:Nat × (Nat->Nat)):Nat × (Nat->Nat):=match r with
 | none=>s
 | some (st,last)=>(st,fun x=>if x=i then last else if s.1=0\/st<s.1 then 0 else s.2 x)
def N14(aL:List Nat)(f i:Nat):Nat:=Z2 (Z2 (2^f-1) (aL.getD i 0)) (2^i)
def J4(aL:List Nat)(N inn f:Nat):Nat->Nat × (Nat->Nat)
 | 0=>(0,fun _=>0)
 | i+1=>shN i (shG aL inn (N14 aL f i) (J4 aL N inn f i).1 N 0 (aL.getD i 0 &&& inn) 2) (J4 aL N inn f i)
theorem E47{aL:List Nat}{N inn f:Nat}:∀(i x:Nat),(J4 aL N inn f i).2 x≠0->x<i/\∃ lim,shG aL inn (N14 aL f x) lim N 0 (aL.getD x 0 &&& inn) 2=some ((J4 aL N inn f i).1,(J4 aL N inn f i).2 x)
 | 0,x,h=>absurd rfl h
 | i+1,x,h=>by
  have ih:=E47 (aL:=aL) (N:=N) (inn:=inn) (f:=f) i x
  cases hr:shG aL inn (N14 aL f i) (J4 aL N inn f i).1 N 0 (aL.getD i 0 &&& inn) 2 with
  | none=>
   have e:J4 aL N inn f (i+1)=J4 aL N inn f i:=by rw[J4,hr];rfl
   rw[e] at h ⊢;obtain⟨h1,h2⟩:=ih h;exact⟨by omega,h2⟩
  | some r=>
   obtain⟨st,last⟩:=r;have e:J4 aL N inn f (i+1)=(st,fun x=>if x=i then last else if (J4 aL N inn f i).1=0\/st<(J4 aL N inn f i).1 then 0 else(J4 aL N inn f i).2 x):=by rw[J4,hr];rfl
   rw[e] at h ⊢;dsimp only at h ⊢
   by_cases hx:x=i
   .subst hx
    rw[if_pos rfl];exact⟨by omega,_,hr⟩
   .rw[if_neg hx] at h ⊢
    split at h
    .exact absurd rfl h
    .rename_i h3
     obtain⟨h1,lim,h2⟩:=ih h;obtain⟨_,h4,_⟩:=K15 (b0:=aL.getD i 0 &&& inn) N 0 _ 2 (fun w hw=>hw) (aD _) hr;have h4:=h4 (by omega);have h5:st=(J4 aL N inn f i).1:=by
      have:st<=(J4 aL N inn f i).1:=h4;omega
     rw[if_neg h3];refine⟨by omega,lim,?_⟩;rw[h5];exact h2
theorem J58 {aL:List Nat} {inn last N first len:Nat} (hN:N<=6) (hlt:∀ (u x:Nat),aL[u]? = some x->x<2^N) (hsym:∀ u w,(aL.getD u 0).testBit w=true->(aL.getD w 0).testBit u=true) (hi:inn<2^N) (hla:last<2^N) (hf:first<N)
  (hst:U5 aL inn last (len-1) &&& aL.getD first 0≠0):∀ k,k<len->Q7 aL inn last len first k<N/\U5 aL inn last (len-1-k) &&& aL.getD (Q7 aL inn last len first k) 0≠0
 | 0,_=>⟨hf,hst⟩
 | k+1,hk=>by
  have hp64:2^N<=64:=Nat.pow_le_pow_right (n:=2) (by omega) hN
  obtain⟨h1,h2⟩:=J58 hN hlt hsym hi hla hf hst k (by omega)
  have hx:U5 aL inn last (len-1-k) &&& aL.getD (Q7 aL inn last len first k) 0<2^N:=Nat.lt_of_le_of_lt Nat.and_le_left (R42 hi hla _)
  have hb:=V33 (x:=U5 aL inn last (len-1-k) &&& aL.getD (Q7 aL inn last len first k) 0) (by omega) (by omega)
  have hl:=B54 (x:=U5 aL inn last (len-1-k) &&& aL.getD (Q7 aL inn last len first k) 0) (by omega) (by omega) hx
  rw[Nat.testBit_and,Bool.and_eq_true] at hb
  have e:len-1-k=(len-1-(k+1))+1:=by omega
  rw[e] at hb
  have h32:∀ u w,(aL.getD u 0).testBit w=true->w<32:=fun u w h=>by
   cases hg:aL[u]? with
   | none=>rw[List.getD_eq_getElem?_getD,hg] at h;simp at h
   | some x=>
    rw[List.getD_eq_getElem?_getD,hg] at h
    have:=R7 (hlt u x hg) h
    omega
  refine⟨hl,?_⟩
  exact V61 hsym h32 (by rw[<- e];rw[<- e] at hb;exact hb.1)
def K10(N f:Nat):Nat:=Z2 (2^N-1) (2^f-1)
def K24(aL:List Nat)(N f:Nat):Option (List Nat):=
 match (aY f).find? fun x=>decide ((J4 aL N (K10 N f) f f).2 x≠0) with
 | none=>none
 | some x=>some ((aY ((J4 aL N (K10 N f) f f).1+1)).map (Q7 aL (K10 N f) ((J4 aL N (K10 N f) f f).2 x) (J4 aL N (K10 N f) f f).1 x))
end
end Go.Clo
namespace Go.Proofs.YtoiioigihocgbaaGreatDoor
open Go.Clo
section
variable (a0 a1 a2:Value) (H:Y0) (nx:Nat) (k:EP)
def F71:Prop:=
 M12 a0 H nx fun b c d=>
 G3 (fun c d e f=>
 D10 .lss d.b (.int .i64 32) fun g=>
 K2 g (
 V4 (fun c=>
 D10 .shr a1 d.b fun g=>
 D10 .and g u1 fun g=>
 D10 .eql g u1 fun g=>
 K2 g (
 M3 b d.b (some 32) 1 fun b=>
 J1 b none e fun b=>
 D10 .or d.a b fun b=>
 c [b] e f) (
 c [d.a] e f)) (fun b e f=>
 D10 .add d.b i1 fun d=>
 c [b.a,d] e f)) (
 Rt d.a e f k)) [u0,i0] c d
def F36:Prop:=
 M12 a0 H nx fun b c d=>
 M64 none <| J3 (.map [] 0) .map c d fun c d e=>
 G3 (fun d e f g=>
 D10 .lss e.b a2 fun h=>
 K2 h (
 V4 (fun d=>
 M2 (g+10) fun g=>
 Y2 Tryz.prog 35 [a2] f g fun g h i=>
 M3 b e.b (some 32) 1 fun j=>
 J1 j none h fun l=>
 D10 .andNot g l fun g=>
 D10 .shl u1 e.b fun m=>
 D10 .andNot g m fun g=>
 wK (tB ((cE j none h l)/\(tB (cE j none f l)))) (
 M3 b e.b (some 32) 1 fun f=>
 J1 f none h fun f=>
 D10 .and f a1 fun f=>
 G3 (fun f h i j=>
 V4 (fun b=>
 D10 .neq h.c u0 fun c=>
 K3 true c (
 D10 .eql h.a i0 fun c=>
 K3 false c (
 D10 .leq h.d h.a fun c=>
 b [c] i j) (
 b [bT] i j)) (
 b [bF] i j)) (fun i j l=>
 K2 i.a (
 D10 .or h.b h.c fun i=>
 J1 b (some 32) j fun b=>
 Y2 Tryz.prog 71 [b,h.c] j l fun b j l=>
 D10 .and b g fun g=>
 D10 .neq g u0 fun m=>
 K2 m (
 V4 (fun b=>
 V4 (fun b=>
 D10 .eql h.a i0 fun c=>
 K3 false c (
 D10 .lss h.d h.a fun c=>
 b [c] j l) (
 b [bT] j l)) (fun d e f=>
 K2 d.a (
 M41 c e fun c=>
 b [h.d] c f) (
 b [h.a] e f))) (fun b f h=>
 W56 (.int .i64) c e.b g f h fun _ c e=>
 d [b.a] c e)) (
 D10 .and b a1 fun b=>
 D10 .andNot b i fun b=>
 D10 .add h.d i1 fun c=>
 f [h.a,i,b,c] j l)) (
 d [h.a] j l))) [e.a,u0,f,(.int .i64 2)] h i)) (fun b c f=>
 D10 .add e.b i1 fun e=>
 d [b.a,e] c f)) (
 Rt (.tuple ⟨[e.a,c]⟩) f g k)) [i0,i0] d e
def F26:Prop:=
 D9 (.eqn false (.slice 3)) [a0,(.slice none 0 0)] fun b=>
 K2 b (
 Rt (.slice none 0 0) H nx k) (
 D24 0 1 [.int .i64 0] [] H nx fun b c d=>
 B5 b a0 1 8 c d fun b c d=>
 Rt b c d k)
def F39:Prop:=
 M12 a0 H nx fun b c d=>
 J1 b (some 3) c fun b=>
 D5 a1 b 3 c fun b=>
 D5 a2 bT 1 b fun b=>
 Rt bF b d k
def F38:Prop:=
 M12 a0 H nx fun b c d=>
 J1 b (some 2) c fun e=>
 Y2 Tryz.prog 74 [e,a1] c d fun c d e=>
 wUn .not c fun c=>
 K2 c (
 Rt (.tuple ⟨[]⟩) d e k) (
 G29 a1 a1 [.int .u32 0] d e fun c d e=>
 G3 (fun d e f g=>
 D10 .lss e.a a1 fun h=>
 K2 h (
 J1 b (some 2) f fun b=>
 Y2 Tryz.prog 70 [b,e.a] f g fun b f g=>
 M3 c e.a none 1 fun c=>
 D5 c b 1 f fun b=>
 D10 .add e.a i1 fun c=>
 d [c] b g) (
 G3 (fun b d e f=>
 D10 .lss d.a a1 fun g=>
 K2 g (
 D10 .add d.a i1 fun g=>
 G3 (fun e f g h=>
 D10 .lss f.a a1 fun i=>
 K2 i (
 V4 (fun b=>
 U6 c d.a g fun _ e=>
 D10 .shr e f.a fun e=>
 D10 .and e u1 fun e=>
 D10 .eql e u1 fun e=>
 K2 e (
 b [] g h) (
 M2 (h+10) fun e=>
 U6 c d.a g fun h i=>
 U6 c f.a g fun c j=>
 D10 .and i j fun l=>
 wK ((tB (cE c none g j))/\(tB (tB (cE h none g i)))) (
 D10 .add f.a i1 fun c=>
 G3 (fun c e g h=>
 D10 .lss e.a a1 fun i=>
 K2 i (
 V4 (fun b=>
 D10 .shr l e.a fun c=>
 D10 .and c u1 fun c=>
 D10 .eql c u1 fun c=>
 K3 true c (
 U11 [.int .i64 0,.int .i64 0,.int .i64 0] [(0,1),(1,1),(2,1)] [(0,d.a),(1,f.a),(2,e.a)] fun c=>
 M33 Tryz.prog a2 [c] g h fun c d e=>
 wUn .not c fun c=>
 b [c] d e) (
 b [bF] g h)) (fun b d f=>
 K2 b.a (
 Rt (.tuple ⟨[]⟩) d f k) (
 D10 .add e.a i1 fun b=>
 c [b] d f))) (
 b [] g h)) [c] g e))) (fun _ b c=>
 D10 .add f.a i1 fun d=>
 e [d] b c)) (
 D10 .add d.a i1 fun c=>
 b [c] g h)) [g] e f) (
 Rt (.tuple ⟨[]⟩) e f k)) [i0] f g)) [i0] d e)
def F15:Prop:=
 M12 a0 H nx fun b c d=>
 wAl [.int .i64 0,.int .i64 0,.int .i64 0] c d fun c d e=>
 wAl [.int .i64 0,.int .i64 0,.int .i64 0] d e fun d e f=>
 wAl [.bool false] e f fun e f g=>
 D5 e bF 1 f fun f=>
 J1 b (some 2) f fun b=>
 Y2 Tryz.prog 38 [b,a1,(.func (.func 39) ⟨[]⟩ ⟨[d,e]⟩)] f g fun _ b f=>
 M2 (f+4) fun f=>
 J1 d (some 3) b fun g=>
 J1 e none b fun h=>
 D5 c g 3 b fun i=>
 wK (((cE e none i h)/\(tB (cE e none b h)))/\(tB (tA (tB (cE d (some 3) b g))))) (
 J1 c (some 3) i fun b=>
 Rt (.tuple ⟨[b,h]⟩) i f k)
def F28:Prop:=
 M12 a0 H nx fun b c d=>
 G3 (fun c d e f=>
 wFl b 0 e fun _ g=>
 D10 .lss d.a g fun g=>
 K2 g (
 wFl b 1 e fun _ b=>
 W8 .u64 d.a fun g=>
 D10 .shl u1 g fun g=>
 Y2 Tryz.prog 62 [b,g] e f fun b e f=>
 wUn .not b fun b=>
 K2 b (
 Rt bF e f k) (
 D10 .add d.a i1 fun b=>
 c [b] e f)) (
 Rt bT e f k)) [i0] c d
def F11:Prop:=
 M12 a0 H nx fun b c d=>
 J1 b (some 2) c fun e=>
 Y2 Tryz.prog 27 [e] c d fun c d e=>
 D10 .neq c i0 fun f=>
 K2 f (
 Rt c d e k) (
 V4 (fun c=>
 D10 .lss a1 i0 fun f=>
 K3 false f (
 wFl b 0 d fun _ b=>
 D10 .gtr a1 b fun b=>
 c [b] d e) (
 c [bT] d e)) (fun c d e=>
 K2 c.a (
 Rt (.int .i64 3) d e k) (
 J1 b (some 2) d fun b=>
 Y2 Tryz.prog 28 [b] d e fun b c d=>
 wUn .not b fun b=>
 K2 b (
 Rt (.int .i64 9) c d k) (
 Rt i0 c d k))))
def F25:Prop:=
 M12 a0 H nx fun b c d=>
 J1 b (some 2) c fun e=>
 Y2 Tryz.prog 27 [e] c d fun c d e=>
 D10 .neq c i0 fun f=>
 K2 f (
 Rt c d e k) (
 V4 (fun c=>
 D10 .lss a1 i0 fun f=>
 K3 false f (
 wFl b 0 d fun _ b=>
 D10 .gtr a1 b fun b=>
 c [b] d e) (
 c [bT] d e)) (fun c d e=>
 K2 c.a (
 Rt (.int .i64 3) d e k) (
 wFl b 1 d fun _ c=>
 R4 c 0 d fun f=>
 G3 (fun d e g h=>
 D10 .lss e.b f fun f=>
 K2 f (
 U6 c e.b g fun _ b=>
 D10 .or e.a b fun b=>
 D10 .add e.b i1 fun c=>
 d [b,c] g h) (
 wFl b 0 g fun _ c=>
 D10 .shl u1 c fun c=>
 D10 .sub c u1 fun c=>
 D10 .neq e.a c fun d=>
 K2 d (
 Rt (.int .i64 9) g h k) (
 M2 (h+9) fun d=>
 J1 b (some 2) g fun e=>
 D10 .shl u1 a1 fun f=>
 D10 .sub f u1 fun f=>
 D10 .andNot c f fun c=>
 Y2 Tryz.prog 43 [e,c] g d fun c d f=>
 wNm h 7 .ptr fun i=>
 E6 d (h+7) (some (.cells [.int .i64 0,.slice none 0 0] 0)) fun d=>D5 i c 2 d fun c=>
 wK (tB (tA (tA (tB (cE b (some 2) g e))))) (
 J1 i (some 2) c fun b=>
 Y2 Tryz.prog 42 [b] c f fun b c d=>
 R4 b 0 c fun e=>
 G3 (fun c d f g=>
 D10 .lss d.a e fun e=>
 K2 e (
 U6 b d.a f fun _ b=>
 Y2 Tryz.prog 44 [b] f g fun b e f=>
 D10 .gtr b (.int .i64 8) fun b=>
 K2 b (
 Rt (.int .i64 12) e f k) (
 D10 .add d.a i1 fun b=>
 c [b] e f)) (
 Rt i0 f g k)) [i0] c d)))) [u0,i0] d e)))
def F10:Prop:=
 M12 a0 H nx fun b c d=>
 wAl [.int .i64 0,.slice none 0 0,.slice none 0 0] c d fun c d e=>
 J1 b (some 2) d fun f=>
 Y2 Tryz.prog 25 [f,a1] d e fun d e f=>
 D10 .neq d i0 fun g=>
 K2 g (
 U11 [.int .i64 0,.slice none 0 0,.slice none 0 0] [(0,1),(1,1),(2,1)] [] fun b=>
 D5 c b 3 e fun b=>
 J1 c (some 3) b fun c=>
 Rt (.tuple ⟨[c,d]⟩) b f k) (
 J1 b (some 2) e fun d=>
 Y2 Tryz.prog 12 [d] e f fun d e f=>
 G9 d 0 fun g=>
 G9 d 1 fun d=>
 K2 d (
 Y2 Tryz.prog 26 [g] e f fun b d e=>
 U11 [.int .i64 0,.slice none 0 0,.slice none 0 0] [(0,1),(1,1),(2,1)] [(0,i1),(2,b)] fun b=>
 D5 c b 3 d fun b=>
 J1 c (some 3) b fun c=>
 Rt (.tuple ⟨[c,i0]⟩) b e k) (
 J1 b (some 2) e fun d=>
 Y2 Tryz.prog 14 [d,a1] e f fun d e f=>
 G9 d 0 fun g=>
 G9 d 1 fun d=>
 K2 d (
 Y2 Tryz.prog 26 [g] e f fun b d e=>
 U11 [.int .i64 0,.slice none 0 0,.slice none 0 0] [(0,1),(1,1),(2,1)] [(0,(.int .i64 2)),(2,b)] fun b=>
 D5 c b 3 d fun b=>
 J1 c (some 3) b fun c=>
 Rt (.tuple ⟨[c,i0]⟩) b e k) (
 J1 b (some 2) e fun d=>
 Y2 Tryz.prog 15 [d,a1] e f fun d e f=>
 G9 d 0 fun g=>
 G9 d 1 fun d=>
 wAl [.int .i64 0,.int .i64 0,.int .i64 0] e f fun e f h=>
 D5 e g 3 f fun f=>
 K2 d (
 D90 e 3 1 none none none fun b=>
 Y2 Tryz.prog 26 [b] f h fun b d e=>
 U11 [.int .i64 0,.slice none 0 0,.slice none 0 0] [(0,1),(1,1),(2,1)] [(0,(.int .i64 3)),(2,b)] fun b=>
 D5 c b 3 d fun b=>
 J1 c (some 3) b fun c=>
 Rt (.tuple ⟨[c,i0]⟩) b e k) (
 J1 b (some 2) f fun b=>
 Y2 Tryz.prog 16 [b,a1] f h fun b d e=>
 G9 b 0 fun f=>
 G9 b 1 fun g=>
 G9 b 2 fun b=>
 wAl zR d e fun d e h=>
 D5 d g 3 e fun d=>
 D10 .neq b i0 fun e=>
 K2 e (
 U11 [.int .i64 0,.slice none 0 0,.slice none 0 0] [(0,1),(1,1),(2,1)] [] fun e=>
 D5 c e 3 d fun d=>
 J1 c (some 3) d fun c=>
 Rt (.tuple ⟨[c,b]⟩) d h k) (
 U11 [.int .i64 0,.slice none 0 0,.slice none 0 0] [(0,1),(1,1),(2,1)] [(0,i0),(1,f)] fun b=>
 D5 c b 3 d fun b=>
 J1 c (some 3) b fun c=>
 Rt (.tuple ⟨[c,i0]⟩) b h k)))))
def F14:Prop:=
 M12 a0 H nx fun b c d=>
 J1 b (some 2) c fun e=>
 Y2 Tryz.prog 33 [e,a1] c d fun c d e=>
 D10 .neq c i0 fun c=>
 K2 c (
 Rt (.tuple ⟨[(.slice none 0 0),bF]⟩) d e k) (
 J1 b (some 2) d fun c=>
 Y2 Tryz.prog 34 [c] d e fun c d e=>
 wAl z32 d e fun d e f=>
 D5 d c 32 e fun c=>
 wFl b 0 c fun _ b=>
 Y2 Tryz.prog 35 [b] c f fun b c e=>
 Y2 Tryz.prog 35 [a1] c e fun c e f=>
 D10 .andNot b c fun b=>
 J1 d (some 32) e fun c=>
 Y2 Tryz.prog 36 [c,b,a1] e f fun c e f=>
 G9 c 0 fun g=>
 G9 c 1 fun c=>
 G3 (fun e f h i=>
 D10 .lss f.a a1 fun j=>
 K2 j (
 wLk (.int .i64) u0 c f.a false h fun j=>
 D10 .neq j u0 fun j=>
 K2 j (
 J1 d (some 32) h fun d=>
 wLk (.int .i64) u0 c f.a false h fun c=>
 Y2 Tryz.prog 37 [d,b,f.a,c,g] h i fun b c d=>
 Rt (.tuple ⟨[b,bT]⟩) c d k) (
 D10 .add f.a i1 fun b=>
 e [b] h i)) (
 Rt (.tuple ⟨[(.slice none 0 0),bF]⟩) h i k)) [i0] e f)
variable {a0 a1 a2 H nx k}
theorem spec71:F71 a0 a1 H nx k->Q2 Tryz.prog 71 [a0,a1] H nx k:=Q12 [(6,[5])] [[5,7]] []
theorem spec36:F36 a0 a1 a2 H nx k->Q2 Tryz.prog 36 [a0,a1,a2] H nx k:=Q12 [(7,[8]),(14,[46]),(21,[8]),(22,[66])] [[8,19],[8,12,13,14]] [.one (.tst (.tst (.one (.one .nil)) (.one (.one .nil))) (.one (.one (.one .nil)))),.one (.tst (.one .nil) (.one .nil))]
theorem spec26:F26 a0 H nx k->Q2 Tryz.prog 26 [a0] H nx k:=Q12 [] [] []
theorem spec39:F39 a0 a1 a2 H nx k->Q2 Tryz.prog 39 [a0,a1,a2] H nx k:=Q12 [] [] []
theorem spec38:F38 a0 a1 a2 H nx k->Q2 Tryz.prog 38 [a0,a1,a2] H nx k:=Q12 [(18,[]),(26,[77])] [[19],[30],[9],[11]] [.one (.tst (.one .nil) (.one .nil))]
theorem spec15:F15 a0 a1 H nx k->Q2 Tryz.prog 15 [a0,a1] H nx k:=Q12 [] [] []
theorem spec28:F28 a0 H nx k->Q2 Tryz.prog 28 [a0] H nx k:=Q12 [] [[3]] []
theorem spec11:F11 a0 a1 H nx k->Q2 Tryz.prog 11 [a0,a1] H nx k:=Q12 [(6,[18])] [] [.one (.tst (.one .nil) (.one .nil))]
theorem spec25:F25 a0 a1 H nx k->Q2 Tryz.prog 25 [a0,a1] H nx k:=Q12 [(6,[25])] [[6,29],[54]] [.one (.tst (.one .nil) (.one .nil))]
theorem spec10:F10 a0 a1 H nx k->Q2 Tryz.prog 10 [a0,a1] H nx k:=Q12 [] [] []
theorem spec14:F14 a0 a1 H nx k->Q2 Tryz.prog 14 [a0,a1] H nx k:=Q12 [] [[31]] []
end
def Y64:Code->Code
 | .seq a _=>a
 | c=>c
def J62:Code->Code
 | .seq _ b=>b
 | c=>c
def cw:Code:=Tryz.f37.body.getD .skip
def q0:Code:=Y64 cw
def q1:Code:=Y64 (J62 cw)
def q2:Code:=Y64 (J62 (J62 cw))
def mkC(c:Code)(ls:List (List Nat)):D:=match R18 Tryz.prog 58 c with
 | some c=>V12 c 0 [] ls [] fun d _ _ _ _=>d
 | none => .skip
def b0:D:=mkC q0 []
def b1:D:=mkC q1 []
def b2:D:=mkC q2 [[11,20]]
theorem c0:R18 Tryz.prog 58 q0=some b0.erase:=by kernel_rfl
theorem c1:R18 Tryz.prog 58 q1=some b1.erase:=by kernel_rfl
theorem c2:R18 Tryz.prog 58 q2=some b2.erase:=by kernel_rfl
theorem o0:b0.ok 58 6=true:=by kernel_rfl
theorem o1 : b1.ok 58 6 = true := by kernel_rfl
theorem o2 : b2.ok 58 6 = true := by kernel_rfl
def F37(a0 a1 a2 a3 a4:Value)(H:Y0)(nx:Nat)(k:EP):Prop:=
 E5 a0 fun t1=>J3 (.cells t1 0) .ptr H nx fun t2 H1 a8=>
 K6 1 1 [.int .u32 0] [(0,a3)] fun t3=>J3 (.cells t3 0) (.slice 1 1) H1 a8 fun t4 H2 nx2=>
 D10 .sub a4 (.int .i64 1) fun t5=>
 G3 (fun t6 t7 H3 E=>
 D10 .lss (t7.getD 1 undef) t5 fun t8=>
 K2 t8 (
 M2 (E+14) fun ab=>
 J1 t2 (some 32) H3 fun t9=>
 R4 (t7.getD 0 undef) 0 H3 fun O=>
 D10 .sub O (.int .i64 1) fun aa=>
 M3 (t7.getD 0 undef) aa none 1 fun J=>
 J1 J none H3 fun Q=>
 Y2 Tryz.prog 71 [t9,Q] H3 ab fun ag H5 a5=>
 D10 .and ag a1 fun a9=>
 K6 1 1 [.int .u32 0] [(0,a9)] fun Z=>wNm E 11 (.slice 1 1) fun a6=>
 E6 H5 (E+11) (some (.cells Z 0)) fun H6=>B5 (t7.getD 0 undef) a6 1 4 H6 a5 fun V H7 U=>
 (((((True)/\((True)/\((J1 J none H3 fun a7=>a7=Q)/\True)))/\(((True)/\((True)/\((R4 (t7.getD 0 undef) 0 H3 fun W=>W=O)/\True)))/\(((True)/\((True)/\((J1 t2 (some 32) H3 fun ac=>ac=t9)/\True)))/\True))))/\(
 D10 .add (t7.getD 1 undef) (.int .i64 1) fun ae=>
 t6 [V,ae] H7 U))\/False) (
 M0 (.tuple ⟨[t2,(t7.getD 0 undef),a2]⟩) fun ad=>k ad H3 E)) [t4,(.int .i64 0)] H2 nx2
def R61:List (X × Option (Option Nat)):=[(.s 5,none),(.s 11,none),(.s 2,none)]
theorem e37 (a0 a1 a2 a3 a4:Value) (H:Y0) (nx:Nat) (k:EP):J27 6 [a0,a1,a2,a3,a4] 0 .leaf (fun T=>wD Tryz.prog 6 b0 T H nx (fun T H nx=>wD Tryz.prog 6 b1 T H nx (fun T H nx=>wD Tryz.prog 6 b2 T H nx (G14 Tryz.prog R61 False k) (fun _ _ _ _=>False) (fun _ _ _=>False)) (fun _ _ _ _=>False) (fun _ _ _=>False)) (fun _ _ _ _=>False) (fun _ _ _=>False))=F37 a0 a1 a2 a3 a4 H nx k:=by kernel_rfl
end Go.Proofs.YtoiioigihocgbaaGreatDoor
