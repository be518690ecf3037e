/-
  Plain: hypergraph.Obstruction finds nothing exactly if the graph is acyclic.
  Plain: inversions,and counting them while runs are merged.
  .
  MADE BY PROGRAM (wip/gen/gen.py): functions 85 53 54 86 87 52 19 84 83 50 17 89 56 23 21 20 51 18 4 as marked code,and their claims written out.
  .
  .
  .
  .
  Plain: renaming the free variables;which orders the reference accepts.
  Maps from int to values.
  Contracts: the reference's Renamed,Inversions.
  MADE BY PROGRAM (wip/gen/gen.py): functions 6 5 as marked code,and their claims written out.
-/
import Derived.Test.YtoiioigihocgbaaGreatDoorO16
import Derived.Test.YtoiioigihocgbaaGreatDoorO13
import Derived.Test.YtoiioigihocgbaaGreatDoorO15
import Derived.KernelRfl
import Derived.Test.YtoiioigihocgbaaGreatDoorO10
import Derived.Test.YtoiioigihocgbaaGreatDoorO12
set_option maxHeartbeats 8000000
set_option maxRecDepth 100000
set_option linter.all false
noncomputable section
open Bool renaming and_eq_true->aG,eq_false_iff->bN,not_eq_true'->cJ,or_eq_true->cO
open Classical renaming byContradiction->aI
open Go.Instr renaming findNow->dP
open Go.Value renaming bool->dU,int->cD
open List renaming all_eq_true->bW,any_eq_true->dY,cons_append->dL,ext_getElem?->dH,foldl_cons->dF,getD_eq_getElem?_getD->aP,getElem?_append_left->bQ,getElem?_eq_getElem->aE,getElem?_eq_none->aT,getElem?_eq_some_iff->aJ,getElem?_map->cP,getElem?_of_mem->cH,getElem?_set->cQ,getElem?_set_ne->bL,getElem?_set_self->dG,getElem?_take->aX,length_append->bH,length_cons->cV,length_eq_zero_iff->dT,length_filter_lt_length_iff_exists->fG,length_map->gM,length_set->dO,mem_append->dN,mem_append_left->dX,mem_cons->aU,mem_filter->dA,mem_map->gN,mem_of_getElem?->aH,mem_range->cW,mem_singleton->dJ,range->aY,replicate->aF,take_of_length_le->gJ
open Nat renaming add_assoc->eH,add_mul->dM,add_zero->eM,ble->dD,eq_of_beq_eq_true->bT,eq_of_testBit_eq->bZ,eq_zero_or_pos->cI,le_refl->aD,le_trans->bK,lt_of_le_of_lt->cE,mul_add->bJ,mul_le_mul->eL,mul_one->eQ,pow_le_pow_right->aK,testBit_and->bI,testBit_or->aV,testBit_two_pow->aR,zero_add->cF,zero_testBit->cN
open Ne renaming symm->eT
open Option renaming elim_some->aN,isSome_none->gO,map_eq_some_iff->bU
namespace Go.Clo
theorem N28 {a b:Nat}:Z2 a b=0<->∀ q,a.testBit q=true->b.testBit q=true:=by
 constructor
 .intro h q hq
  have:=congrArg (·.testBit q) h
  simp only[N1,hq,Nat.zero_testBit,Bool.true_and] at this
  simpa using this
 .intro h
  apply Nat.eq_of_testBit_eq
  intro q
  rw[N1,Nat.zero_testBit]
  cases hq:a.testBit q with
  | false=>rfl
  | true=>rw[h q hq];rfl
theorem J43{cl rest:Nat}:∀(es:List Nat) (s:Nat × Bool),((∃ e ∈ es,Z2 cl e=0)/\(∃ e ∈ es,Z2 cl e=0/\es.foldl (X78 cl rest) s=(Z2 rest e,true))\/es.foldl (X78 cl rest) s=s)/\(s.2=false->(∃ e ∈ es,Z2 cl e=0)->(es.foldl (X78 cl rest) s).2=true)
 | [],s=>⟨.inr rfl,fun _ ⟨e,h,_⟩=>by simp at h⟩
 | x :: es,s=>by
  rw[dF];obtain⟨h1,h2⟩:=J43 es (X78 cl rest s x)
  by_cases hc:Z2 cl x=0/\(s.2=false\/E9 (Z2 rest x)<E9 s.1)
  .have e:X78 cl rest s x=(Z2 rest x,true):=if_pos hc
   rw[e] at h1 h2 ⊢;have hx:∃ e ∈ x :: es,Z2 cl e=0:=⟨x,by simp,hc.1⟩
   rcases h1 with ⟨_,y,y1,y2,y3⟩ | h1
   .refine⟨.inl ⟨hx,y,by simp[y1],y2,y3⟩,fun _ _=>by rw[y3]⟩
   .refine⟨.inl ⟨hx,x,by simp,hc.1,h1⟩,fun _ _=>by rw[h1]⟩
  .have e:X78 cl rest s x=s:=if_neg hc
   rw[e] at h1 h2 ⊢;refine⟨?_,fun h0 ⟨y,y1,y2⟩ => ?_⟩
   .rcases h1 with ⟨⟨z,z1,z2⟩,y,y1,y2,y3⟩ | h1
    .exact .inl ⟨⟨z,by simp[z1],z2⟩,y,by simp[y1],y2,y3⟩
    .exact .inr h1
   .rcases aU.1 y1 with rfl | y1
    .exact absurd ⟨y2,.inl h0⟩ hc
    .exact h2 h0 ⟨y,y1,y2⟩
theorem R49{es:List Nat}{cl rest:Nat}:(C75 es cl rest).2=false<->¬ ∃ e ∈ es,Z2 cl e=0:=by
 obtain⟨h1,h2⟩:=J43 (cl:=cl) (rest:=rest) es (0,false);unfold C75
 constructor
 .intro h hx
  rw[h2 rfl hx] at h;cases h
 .intro h
  rcases h1 with ⟨hx,_⟩ | h1
  .exact absurd hx h
  .rw[h1]
theorem Z53{es:List Nat}{cl rest:Nat}(h:(C75 es cl rest).2=true):∃ e ∈ es,Z2 cl e=0/\(C75 es cl rest).1=Z2 rest e:=by
 obtain⟨h1,_⟩:=J43 (cl:=cl) (rest:=rest) es (0,false);unfold C75 at h ⊢;rcases h1 with ⟨_,y,y1,y2,y3⟩ | h1
 .exact⟨y,y1,y2,by rw[y3]⟩
 .rw[h1] at h;cases h
theorem R48{p q:Nat->Bool}{t:Nat}:∀ {T:List Nat},(∀ x,p x=true->q x=true)->t ∈ T->q t=true->p t=false->T.countP p+1<=T.countP q
 | [],_,h,_,_=>by simp at h
 | x :: T,hpq,ht,h1,h2=>by
  rw[List.countP_cons,List.countP_cons];have hm:=List.countP_mono_left (l:=T) (p:=p) (q:=q) fun y _=>hpq y
  by_cases e:t=x
  .subst e
   rw[h1,h2];simp;omega
  .have:=R48 (T:=T) hpq ((aU.1 ht).resolve_left e) h1 h2
   have hx:=hpq x
   cases hp:p x with
   | false=>cases q x<;>simp<;>omega
   | true=>rw[hx hp];simp;omega
theorem Y68{cl rest:Nat}{T:List Nat}:∀(es:List Nat) (s:Nat × Nat),(∀ e ∈ es,Z2 cl e=0->∃ t ∈ T,rest.testBit t=true/\e.testBit t=false)->s.1<=T.countP (fun t=>s.2.testBit t)->(es.foldl (X74 cl rest) s).1<=T.countP (fun t=>(es.foldl (X74 cl rest) s).2.testBit t)
 | [],s,_,h=>h
 | x :: es,s,he,h=>by
  rw[dF];refine Y68 es _ (fun e h1=>he e (by simp[h1])) ?_;unfold X74
  split
  .rename_i hc
   obtain⟨t,t1,t2,t3⟩:=he x (by simp) hc.1;have hs:s.2.testBit t=false:=by
    have:=congrArg (·.testBit t) hc.2;simp only[bI,N1,t2,t3] at this;simpa using this
   have:=R48 (T:=T) (p:=fun t=>s.2.testBit t) (q:=fun t=>(s.2 ||| Z2 rest x).testBit t) (fun y hy=>by rw[aV,hy];rfl) t1 (by rw[aV,N1,t2,t3];simp) hs;show s.1+1<=T.countP fun t=>(s.2 ||| Z2 rest x).testBit t
   omega
  .exact h
theorem X46{rest out t:Nat}:∀ k,(N71 rest out k).testBit t=true<->rest.testBit t=true/\¬ (out.testBit t=true/\t<k)
 | 0=>by simp[N71]
 | k+1=>by
  have ih:=X46 (rest:=rest) (out:=out) (t:=t) k;rw[N71]
  split
  .rename_i h
   rw[N1,aR,aG,ih,cJ,decide_eq_false_iff_not]
   constructor
   .rintro⟨⟨h1,h2⟩,h3⟩
    exact⟨h1,fun⟨h4,h5⟩=>h2 ⟨h4,by omega⟩⟩
   .rintro⟨h1,h2⟩
    exact⟨⟨h1,fun⟨h4,h5⟩=>h2 ⟨h4,by omega⟩⟩,fun e=>h2 ⟨by rw[<- e];exact h,by omega⟩⟩
  .rename_i h
   rw[ih]
   constructor
   .rintro⟨h1,h2⟩
    refine⟨h1,fun⟨h4,h5⟩ => ?_⟩
    by_cases e:t=k
    .subst e;exact h h4
    .exact h2 ⟨h4,by omega⟩
   .rintro⟨h1,h2⟩
    exact⟨h1,fun⟨h4,h5⟩=>h2 ⟨h4,by omega⟩⟩
def Unc(es:List Nat)(cl:Nat)(T:List Nat):Prop:=¬ ∃ e ∈ es,Z2 cl e=0/\∀ t ∈ T,e.testBit t=true
section
variable {A:Nat->Nat->Prop} {es aL:List Nat} {N:Nat} (hb:∀ u w,(aL.getD u 0).testBit w=true<->A u w)
include hb
theorem E38:∀(c cl rest:Nat),W51 es aL N c cl rest=true->∃ T:List Nat,T.length<=c/\(∀ t ∈ T,rest.testBit t=true)/\(∀ a ∈ T,∀ b ∈ T,a≠b->A a b\/A b a)/\Unc es cl T
 | 0,cl,rest,h=>by
  rw[W51,cJ] at h;exact⟨[],aD _,by simp,by simp,fun⟨e,h1,h2,_⟩=>R49.1 h ⟨e,h1,h2⟩⟩
 | c+1,cl,rest,h=>by
  rw[W51,cO,cJ] at h
  by_cases J:(C75 es cl rest).2=false
  .exact⟨[],by simp,by simp,by simp,fun⟨e,h1,h2,_⟩=>R49.1 J ⟨e,h1,h2⟩⟩
  have h:=h.resolve_left J;obtain⟨e0,e1,e2,e3⟩:=Z53 (by simpa using J);rw[aG,dY] at h;obtain⟨_,v,hv,h⟩:=h;rw[aG,e3] at h;obtain⟨h1,h2⟩:=h;obtain⟨T,t1,t2,t3,t4⟩:=E38 c _ _ h2;rw[N1,aG] at h1;have E:∀ t ∈ T,rest.testBit t=true/\A v t:=fun t ht=>by
   have:=t2 t ht;rw[bI,aG,hb] at this;exact⟨((X46 _).1 this.1).1,this.2⟩
  refine⟨v :: T,by simp;omega,fun t ht => ?_,fun a ha b O Q => ?_,fun⟨e,g1,g2,g3⟩=>t4 ⟨e,g1,?_,fun t ht=>g3 t (by simp[ht])⟩⟩
  .rcases aU.1 ht with rfl | ht
   .exact h1.1
   .exact(E t ht).1
  .rcases aU.1 ha with e1 | h1
   .rcases aU.1 O with e2 | h2
    .exact absurd (e1.trans e2.symm) Q
    .rw[e1];exact .inl (E b h2).2
   .rcases aU.1 O with e2 | h2
    .rw[e2];exact .inr (E a h1).2
    .exact t3 a h1 b h2 Q
  .rw[N28]
   intro q hq;rw[aV,aR,cO,decide_eq_true_eq] at hq;rcases hq with hq | rfl
   .exact N28.1 g2 q hq
   .exact g3 _ (by simp)
theorem X50{p:Nat->Prop}:∀ {T:List Nat},(∃ t ∈ T,p t)->∃ v ∈ T,p v/\∀ t ∈ T,p t->v<=t
 | [],⟨t,h,_⟩=>by simp at h
 | x :: T,h=>by
  by_cases hT:∃ t ∈ T,p t
  .obtain⟨v,v1,v2,v3⟩:=X50 hT
   by_cases hx:p x/\x<v
   .refine⟨x,by simp,hx.1,fun t ht hp => ?_⟩
    rcases aU.1 ht with rfl | ht
    .exact aD _
    .have:=v3 t ht hp;omega
   .refine⟨v,by simp[v1],v2,fun t ht hp => ?_⟩
    rcases aU.1 ht with rfl | ht
    .exact aI fun hn=>hx ⟨hp,by omega⟩
    .exact v3 t ht hp
  .obtain⟨t,ht,hp⟩:=h
   rcases aU.1 ht with rfl | ht
   .refine⟨t,by simp,hp,fun t' E J => ?_⟩
    rcases aU.1 E with rfl | E
    .exact aD _
    .exact absurd ⟨t',E,J⟩ hT
   .exact absurd ⟨t,ht,hp⟩ hT
theorem E60{cl v:Nat}{T:List Nat}(hv:v ∈ T)(h:Unc es cl T):Unc es (cl ||| 2^v) (T.filter fun t=>decide (t≠v)):=fun⟨e,h1,h2,h3⟩=>h ⟨e,h1,N28.2 fun q hq=>N28.1 h2 q (by rw[aV,hq];rfl),fun t ht=>by
 by_cases e':t=v
 .subst e';exact N28.1 h2 t (by rw[aV,Nat.testBit_two_pow_self,Bool.or_true])
 .exact h3 t (dA.2 ⟨ht,by simpa using e'⟩)⟩
theorem X30:∀ (c cl rest:Nat) (T:List Nat),rest<2^N->T.length<=c->(∀ t ∈ T,rest.testBit t=true)->(∀ a ∈ T,∀ b ∈ T,a≠b->A a b)->Unc es cl T->W51 es aL N c cl rest=true
 | 0,cl,rest,T,_,hl,_,_,hu=>by
  obtain rfl:T=[]:=List.length_eq_zero_iff.1 (by omega)
  rw[W51,Bool.not_eq_true']
  exact R49.2 fun⟨e,h1,h2⟩=>hu ⟨e,h1,h2,by simp⟩
 | c+1,cl,rest,T,hr,hl,hT,hp,hu=>by
  rw[W51,Bool.or_eq_true,Bool.not_eq_true']
  by_cases hno:(C75 es cl rest).2=false
  .exact .inl hno
  right
  obtain⟨e0,e1,e2,e3⟩:=Z53 (by simpa using hno)
  have hit:∀ e ∈ es,Z2 cl e=0->∃ t ∈ T,rest.testBit t=true/\e.testBit t=false:=fun e he h0=>by
   refine Classical.byContradiction fun hn=>hu ⟨e,he,h0,fun t ht => ?_⟩
   cases hb:e.testBit t with
   | true=>rfl
   | false=>exact absurd ⟨t,ht,hT t ht,hb⟩ hn
  have hout:∀ t,(C75 es cl rest).1.testBit t=true<->rest.testBit t=true/\e0.testBit t=false:=fun t=>by
   rw[e3,N1,Bool.and_eq_true,Bool.not_eq_true']
  obtain⟨v,v1,v2,v3⟩:=X50 hb (p:=fun t=>(C75 es cl rest).1.testBit t=true) (T:=T) (by
   obtain⟨t,t1,t2,t3⟩:=hit e0 e1 e2
   exact⟨t,t1,(hout t).2 ⟨t2,t3⟩⟩)
  have hvl:(T.filter fun t=>decide (t≠v)).length<T.length:=List.length_filter_lt_length_iff_exists.2 ⟨v,v1,by simp⟩
  have hd:(C82 es cl rest).1<=c+1:=by
   have:=Y68 (cl:=cl) (rest:=rest) (T:=T) es (0,0) hit (Nat.zero_le _)
   exact Nat.le_trans this (Nat.le_trans List.countP_le_length hl)
  rw[Bool.and_eq_true,Bool.and_eq_true,List.any_eq_true,decide_eq_true_eq,decide_eq_true_eq]
  refine⟨⟨fun h=>(by rw[h,Nat.zero_testBit] at v2;cases v2),hd⟩,v,List.mem_range.2 (R7 hr (hT v v1)),?_⟩
  rw[Bool.and_eq_true]
  refine⟨v2,X30 c _ _ (T.filter fun t=>decide (t≠v)) (W37 (D85 hr _)) (by omega) (fun t ht => ?_) (fun a ha b hb'=>hp a (List.mem_filter.1 ha).1 b (List.mem_filter.1 hb').1) (E60 hb v1 hu)⟩
  obtain⟨t1,t2⟩:=List.mem_filter.1 ht
  have t2:t≠v:=of_decide_eq_true t2
  rw[Nat.testBit_and,Bool.and_eq_true,hb,X46]
  exact⟨⟨hT t t1,fun⟨h1,h2⟩=>t2 (Nat.le_antisymm (by omega) (v3 t t1 h1))⟩,hp v v1 t t1 (Ne.symm t2)⟩
end
theorem Q52{P:Nat->Bool}:∀(k L:Nat),(∀ x,P x=false)->B86 P k L=L+k
 | 0,L,_=>rfl
 | k+1,L,h=>by rw[B86,if_neg (by rw[h];simp),Q52 k (L+1) h];omega
theorem E51{P:Nat->Bool}:∀(k L c:Nat),L<=c->c<L+k->P c=true->B86 P k L<=c/\P (B86 P k L)=true
 | 0,L,c,h1,h2,_=>by omega
 | k+1,L,c,h1,h2,h=>by
  rw[B86]
  split
  .rename_i h3;exact⟨h1,h3⟩
  .rename_i h3
   by_cases e:L=c
   .subst e;exact absurd h h3
   .exact E51 k (L+1) c (by omega) (by omega) h
section
variable {es aL:List Nat} {N:Nat} (hb:∀ u w,(aL.getD u 0).testBit w=true<->N10 es u w) (hsm:∀ e ∈ es,e<2^N) (hor:∀ v,(Z7 es).testBit v=true<->Q21 es v)
include hb hsm hor
theorem B38{L v:Nat}:∀ k,(W76 es aL N L (Z7 es) k).1=[]->(W76 es aL N L (Z7 es) k).2.1=0/\∀ x,(W76 es aL N L (Z7 es) k).2.2.testBit x=true<->(Z7 es).testBit x=true/\k<=x
 | 0,_=>⟨rfl,fun x=>by simp[W76]⟩
 | k+1,h=>by
  rw[W76] at h ⊢;unfold W99 at h ⊢
  split at h
  .rename_i h1
   rw[if_pos h1]
   split at h
   .simp at h
   .rename_i h2
    rw[if_neg h2];obtain⟨i1,i2⟩:=B38 (v:=v) k h;refine⟨i1,fun x => ?_⟩;show(Z2 _ _).testBit x=true<->_;rw[N1,aR,aG,i2,cJ,decide_eq_false_iff_not]
    constructor
    .rintro⟨⟨a,b⟩,c⟩;exact⟨a,by omega⟩
    .rintro⟨a,b⟩;exact⟨⟨a,by omega⟩,by omega⟩
  .rename_i h1
   rw[if_neg h1];obtain⟨i1,i2⟩:=B38 (v:=v) k h;refine⟨i1,fun x => ?_⟩;rw[i2]
   constructor
   .rintro⟨a,b⟩
    refine⟨a,?_⟩
    by_cases e:k=x
    .subst e;exact absurd ((i2 k).2 ⟨a,b⟩) h1
    .omega
   .rintro⟨a,b⟩;exact⟨a,by omega⟩
theorem C45{L:Nat}:∀ k d,(W76 es aL N L (Z7 es) k).1≠[]->(W76 es aL N L (Z7 es) (k+d)).1≠[]
 | k,0,h=>h
 | k,d+1,h=>by
  have ih:=C45 k d h;show(W76 es aL N L (Z7 es) (k+d+1)).1≠[];rw[W76];unfold W99
  split
  .split
   .simp
   .exact ih
  .exact ih
theorem K74:D83 es aL N N=[]<->Cf es:=by
 have hlk:Z7 es<2^N:=Nat.lt_pow_two_of_testBit _ fun w hw=>Bool.eq_false_iff.2 fun h=>by
  obtain⟨e,h1,h2⟩:=(hor w).1 h
  have:=R7 (hsm e h1) h2
  omega
 have ne_nil:∀ T:List Nat,Z7 es≠0->Unc es 0 T->T≠[]:=fun T h0 hu hT=>by
  subst hT
  cases he:es with
  | nil=>
   refine h0 (Nat.eq_of_testBit_eq fun i => ?_)
   rw[Nat.zero_testBit]
   refine Bool.eq_false_iff.2 fun h => ?_
   obtain⟨e,h1,_⟩:=(hor i).1 h
   rw[he] at h1;simp at h1
  | cons x r=>exact hu ⟨x,by rw[he];simp,N28.2 (fun q hq=>by rw[Nat.zero_testBit] at hq;cases hq),by simp⟩
 constructor
 .intro hnil Q hx hc ha
  refine Classical.byContradiction fun hn => ?_
  have hQN:∀ q,Q q->q<N:=fun q hq=>by
   obtain⟨e,h1,h2⟩:=hc q hq
   exact R7 (hsm e h1) h2
  obtain⟨T,hT⟩:∃ T:List Nat,T=(List.range N).filter fun q=>@decide (Q q) (Classical.propDecidable _):=⟨_,rfl⟩
  have hm:∀ q,q ∈ T<->Q q:=fun q=>by
   rw[hT,List.mem_filter,@decide_eq_true_eq _ (Classical.propDecidable _),List.mem_range]
   exact⟨fun h=>h.2,fun h=>⟨hQN q h,h⟩⟩
  have hl:T.length<=N:=by rw[hT];exact Nat.le_trans (List.length_filter_le _ _) (by simp)
  clear hT
  have hu:∀ cl,cl=0->Unc es cl T:=fun cl hcl ⟨e,h1,_,h3⟩=>hn ⟨e,h1,fun q hq=>h3 q ((hm q).2 hq)⟩
  have h3:3<=T.length:=by
   refine Classical.byContradiction fun h3 => ?_
   match T,hm,h3 with
   | [],hm,_=>obtain⟨q,hq⟩:=hx;exact absurd ((hm q).2 hq) (by simp)
   | [a],hm,_=>
    obtain⟨e,h1,h2⟩:=hc a ((hm a).1 (by simp))
    exact hn ⟨e,h1,fun q hq=>by have:=(hm q).2 hq;simp at this;rw[this];exact h2⟩
   | [a,b],hm,_=>
    by_cases e:a=b
    .obtain⟨e',h1,h2⟩:=hc a ((hm a).1 (by simp))
     exact hn ⟨e',h1,fun q hq=>by have:=(hm q).2 hq;simp[<- e] at this;rw[this];exact h2⟩
    .obtain⟨_,e',h1,h2,h2'⟩:=ha a b ((hm a).1 (by simp)) ((hm b).1 (by simp)) e
     exact hn ⟨e',h1,fun q hq=>by
      have:=(hm q).2 hq
      simp at this
      rcases this with rfl | rfl
      .exact h2
      .exact h2'⟩
   | _ :: _ :: _ :: _,_,h3=>simp at h3
  have hposs:W51 es aL N T.length 0 (Z7 es)=true:=X30 hb T.length 0 (Z7 es) T hlk (Nat.le_refl _) (fun t ht=>(hor t).2 (hc t ((hm t).1 ht))) (fun a ha' b hb'=>ha a b ((hm a).1 ha') ((hm b).1 hb')) (hu 0 rfl)
  obtain⟨k1,k2⟩:=E51 (P:=fun L=>W51 es aL N L 0 (Z7 es)) (N-2) 3 T.length h3 (by omega) hposs
  have h0:Z7 es≠0:=fun h=>by
   obtain⟨q,hq⟩:=hx
   have:=(hor q).2 (hc q hq)
   rw[h,Nat.zero_testBit] at this;cases this
  unfold D83 at hnil
  rw[if_neg (fun h=>by rcases h with h | h<;>omega)] at hnil
  generalize B86 (fun L=>W51 es aL N L 0 (Z7 es)) (N-2) 3=L at *
  obtain⟨T0,t1,t2,t3,t4⟩:=E38 hb L 0 (Z7 es) k2
  obtain⟨v,v1,_,v3⟩:=X50 hb (p:=fun _=>True) (T:=T0) (by
   cases hT0:T0 with
   | nil=>exact absurd hT0 (ne_nil T0 h0 t4)
   | cons x r=>exact⟨x,by simp,trivial⟩)
  have hvN:=R7 hlk (t2 v v1)
  have hTl:(T0.filter fun t=>decide (t≠v)).length<T0.length:=List.length_filter_lt_length_iff_exists.2 ⟨v,v1,by simp⟩
  have hstep:(W76 es aL N L (Z7 es) (v+1)).1≠[]:=by
   by_cases he:(W76 es aL N L (Z7 es) v).1=[]
   .obtain⟨i1,i2⟩:=B38 hb hsm hor (v:=v) v he
    rw[W76]
    unfold W99
    rw[if_pos ((i2 v).2 ⟨t2 v v1,Nat.le_refl _⟩),if_pos]
    .simp
    rw[he,i1]
    refine⟨by simp;omega,X30 hb _ _ _ (T0.filter fun t=>decide (t≠v)) (W37 (Z6 ?_)) (by simp only[List.length_nil];omega) (fun t ht => ?_) (fun a ha' b hb' hne => ?_) (E60 hb v1 t4)⟩
    .exact Nat.lt_pow_two_of_testBit _ fun w hw=>Bool.eq_false_iff.2 fun h=>by
      have:=R7 hlk ((i2 w).1 h).1
      omega
    .obtain⟨a1,a2⟩:=List.mem_filter.1 ht
     have a2:t≠v:=of_decide_eq_true a2
     rw[Nat.testBit_and,Bool.and_eq_true,hb,N1,Bool.and_eq_true,i2,Nat.testBit_two_pow,Bool.not_eq_true',decide_eq_false_iff_not]
     refine⟨⟨⟨t2 t a1,v3 t a1 trivial⟩,fun e=>a2 e.symm⟩,?_⟩
     rcases t3 v v1 t a1 (Ne.symm a2) with g | g
     .exact g
     .exact g.symm
    .rcases t3 a (List.mem_filter.1 ha').1 b (List.mem_filter.1 hb').1 hne with g | g
     .exact g
     .exact g.symm
   .exact C45 hb hsm hor v 1 he
  have:=C45 hb hsm hor (v+1) (N-(v+1)) hstep
  rw[show v+1+(N-(v+1))=N by omega] at this
  exact this hnil
 .intro hC
  unfold D83
  by_cases h0:Z7 es=0
  .rw[if_pos (.inl h0)]
  rw[if_pos]
  right
  rw[Q52 (P:=fun L=>W51 es aL N L 0 (Z7 es)) (N-2) 3 fun L=>Bool.eq_false_iff.2 fun hp => ?_]
  .omega
  obtain⟨T,t1,t2,t3,t4⟩:=E38 hb L 0 (Z7 es) hp
  have hne:=ne_nil T h0 t4
  obtain⟨e,h1,h2⟩:=hC (fun q=>q ∈ T) (by
   cases hT:T with
   | nil=>exact absurd hT hne
   | cons x r=>exact⟨x,by simp⟩) (fun q hq=>(hor q).1 (t2 q hq)) (fun a b ha hb' hab=>by
   rcases t3 a ha b hb' hab with g | g
   .exact g
   .exact g.symm)
  exact t4 ⟨e,h1,N28.2 (fun q hq=>by rw[Nat.zero_testBit] at hq;cases hq),h2⟩
end
theorem R68{cy cq:List Nat}:X90 cy cq=[]<->cy=[]/\cq=[]:=by
 unfold X90
 split
 .rename_i h;exact⟨fun g=>⟨g,h⟩,fun g=>g.1⟩
 .rename_i h
  split
  .exact⟨fun g=>absurd g h,fun g=>g.2⟩
  .rename_i h2;exact⟨fun g=>absurd (.inl g) h2,fun g=>g.1⟩
end Go.Clo
namespace Go.Proofs.YtoiioigihocgbaaGreatDoor
open Go.Clo
theorem J73{es:List Nat}{N:Nat}(hN:N<=6)(hsm:∀ e ∈ es,e<2^N)(hor:∀ v,(Z7 es).testBit v=true<->Q21 es v):Z74 es (B2 es N) N=[]<->PE es:=by
 have E:∀ u w,N10 es u w->u<N/\w<N:=fun u w h=>by
  obtain⟨_,e,h1,h2,h3⟩:=h;exact⟨R7 (hsm e h1) h2,R7 (hsm e h1) h3⟩
 have hb:∀ u w,((B2 es N).getD u 0).testBit w=true<->N10 es u w:=fun u w=>by
  rw[B17 hN (Nat.zero_le N) u w];exact⟨fun h=>h.2.2,fun h=>⟨(E u w h).1,(E u w h).2,h⟩⟩
 rw[V78 (n:=N) fun v ⟨e,h1,h2⟩=>R7 (hsm e h1) h2,<- Q74 hN hb E (fun a b h=>h.symm) (fun a h=>h.1 rfl),<- K74 hb hsm hor];unfold Z74;rw[R68]
 constructor
 .rintro⟨h1,h2⟩
  rw[if_pos h1] at h2;exact⟨h1,h2⟩
 .rintro⟨h1,h2⟩
  rw[if_pos h1];exact⟨h1,h2⟩
end Go.Proofs.YtoiioigihocgbaaGreatDoor
namespace Go.Inv
def less(x:Int)(r:List Int):Nat:=r.countP fun y=>decide (y<x)
def inv:List Int->Nat
 | []=>0
 | x :: r=>less x r+inv r
abbrev Srt(l:List Int):Prop:=l.Pairwise (· <= ·)
inductive R (w:Nat):List Int->List Int->Nat->Prop
 | last {p f:List Int}:p.length<=w->Srt f->f.Perm p->R w p f (inv p)
 | cons {p1 p2 f1 f2:List Int} {c:Nat}:p1.length=w->Srt f1->f1.Perm p1->R w p2 f2 c->R w (p1++p2) (f1++f2) (inv p1+c)
end Go.Inv
namespace Go.Proofs.YtoiioigihocgbaaGreatDoor
open Go.Clo
section
variable (a0 a1 a2 a3 a4 a5 a6 a7 a8:Value) (H:Y0) (nx:Nat) (k:EP)
def F21:Prop:=
 G3 (fun b c d e=>
 R4 a0 0 d fun f=>
 D10 .lss c.b f fun f=>
 K2 f (
 U6 a0 c.b d fun _ f=>
 G3 (fun d e f g=>
 R4 a1 0 f fun h=>
 D10 .lss e.b h fun h=>
 K2 h (
 W8 .u64 e.b fun b=>
 D10 .shl u1 b fun b=>
 D10 .andNot e.a b fun b=>
 D10 .add e.b i1 fun c=>
 d [b,c] f g) (
 G3 (fun d e f g=>
 R4 a1 0 f fun h=>
 D10 .lss e.b h fun h=>
 K2 h (
 V4 (fun b=>
 M2 (g+9) fun d=>
 U6 a0 c.b f fun c g=>
 U6 a1 e.b f fun h i=>
 Y2 Tryz.prog 55 [g,i] f d fun d j l=>
 wK ((tA (tB (cE h none f i)))/\(tB (tA (tB (cE c none f g))))) (
 K2 d (
 W8 .u64 e.b fun c=>
 D10 .shl u1 c fun c=>
 D10 .or e.a c fun c=>
 b [c] j l) (
 b [e.a] j l))) (fun b c f=>
 D10 .add e.b i1 fun e=>
 d [b.a,e] c f)) (
 D24 1 1 [.int .u32 0] [(0,e.a)] f g fun d e f=>
 B5 c.a d 1 4 e f fun d e f=>
 D10 .add c.b i1 fun c=>
 b [d,c] e f)) [e.a,i0] f g)) [f,i0] d e) (
 Rt c.a d e k)) [(.slice none 0 0),i0] H nx
variable {a0 a1 a2 a3 a4 a5 a6 a7 a8 H nx k}
theorem spec21:F21 a0 a1 H nx k->Q2 Tryz.prog 21 [a0,a1] H nx k:=Q12 [(17,[7])] [[5,6],[7,8],[7,9]] []
end
open Go.Inv
section
variable {a b f n v:Nat} {es p:List Nat}
structure RnE (σ τ:Nat->Nat) (es es':List Nat):Prop where
 l:∀ v,σ (τ v)=v
 r:∀ v,τ (σ v)=v
 a:∀ e ∈ es,∃ e' ∈ es',∀ w,e'.testBit w=e.testBit (σ w)
 b:∀ e' ∈ es',∃ e ∈ es,∀ w,e'.testBit w=e.testBit (σ w)
section
variable {σ τ:Nat->Nat} {es es':List Nat} (h:RnE σ τ es es')
include h
theorem RnE.symm:RnE τ σ es' es:=
 ⟨h.r,h.l,fun e' E=>by
  obtain⟨e,h1,h2⟩:=h.b e' E;exact⟨e,h1,fun w=>by rw[h2,h.l]⟩,fun e he=>by
  obtain⟨e',h1,h2⟩:=h.a e he;exact⟨e',h1,fun w=>by rw[h2,h.l]⟩⟩
theorem RnE.inj(e:σ a=σ b):a=b:=by rw[<- h.r a,e,h.r]
theorem RnE.cov:Q21 es' v<->Q21 es (σ v):=by
 constructor
 .rintro⟨e',h1,h2⟩
  obtain⟨e,h3,h4⟩:=h.b e' h1;exact⟨e,h3,by rw[<- h4];exact h2⟩
 .rintro⟨e,h1,h2⟩
  obtain⟨e',h3,h4⟩:=h.a e h1;exact⟨e',h3,by rw[h4];exact h2⟩
theorem RnE.adj:N10 es' a b<->N10 es (σ a) (σ b):=by
 constructor
 .rintro⟨E,e',h1,h2,h3⟩
  obtain⟨e,h4,h5⟩:=h.b e' h1;exact⟨fun e=>E (h.inj e),e,h4,by rw[<- h5];exact h2,by rw[<- h5];exact h3⟩
 .rintro⟨E,e,h1,h2,h3⟩
  obtain⟨e',h4,h5⟩:=h.a e h1;exact⟨fun e=>E (by rw[e]),e',h4,by rw[h5];exact h2,by rw[h5];exact h3⟩
theorem RnE.pel:∀{l:List Nat},PEl es' l->PEl es (l.map σ)
 | [],_=>trivial
 | v :: r,g=>by
  refine⟨fun hc => ?_,RnE.pel g.2⟩;obtain⟨e',h1,h2,h3⟩:=g.1 (h.cov.2 hc);obtain⟨e,h4,h5⟩:=h.b e' h1;refine⟨e,h4,by rw[<- h5];exact h2,fun w hw ha => ?_⟩;obtain⟨u,hu,rfl⟩:=gN.1 hw;rw[<- h5];exact h3 u hu (h.adj.2 ha)
theorem RnE.pe1(g:PE es'):PE es:=by
 obtain⟨l,h1,h2⟩:=g;refine⟨l.map σ,fun v hv => ?_,h.pel h2⟩;have:=h1 (τ v) (h.cov.2 (by rw[h.l];exact hv));exact gN.2 ⟨τ v,this,h.l v⟩
theorem RnE.pe:PE es'<->PE es:=⟨h.pe1,h.symm.pe1⟩
theorem RnE.free1(hf:∀ v,σ v<f<->v<f)(hn:∀ v,σ v<n<->v<n){l:List Nat}(g:D48 (N10 es') n f l):D48 (N10 es) n f (l.map σ):=by
 have key:∀(i x:Nat),(l.map σ)[i]? = some x->∃ y,l[i]? = some y/\σ y=x:=fun i x hx=>by
  rw[cP,bU] at hx;exact hx
 refine⟨by rw[gM];exact g.len,fun i j x y E hx hy => ?_,fun i x hx => ?_,fun i x hx => ?_⟩
 .obtain⟨u,hu,rfl⟩:=key i x hx
  obtain⟨w,hw,rfl⟩:=key j y hy;obtain⟨h1,h2⟩:=g.ch i j u w E hu hw;exact⟨fun e=>h1 (h.inj e),by rw[<- h.adj];exact h2⟩
 .obtain⟨u,hu,rfl⟩:=key i x hx
  exact(hn u).2 (g.lt i u hu)
 .obtain⟨u,hu,rfl⟩:=key i x hx
  rw[gM,hf u];exact g.ends i u hu
theorem RnE.fpth(hf:∀ v,σ v<f<->v<f)(hn:∀ v,σ v<n<->v<n):U25 (N10 es') n f []<->U25 (N10 es) n f []:=by
 rw[V45,V45]
 constructor
 .rintro⟨l,g⟩;exact⟨_,h.free1 hf hn g⟩
 .rintro⟨l,g⟩
  exact⟨_,h.symm.free1 (fun v=>by rw[<- hf (τ v),h.l]) (fun v=>by rw[<- hn (τ v),h.l]) g⟩
end
def N20(e:Nat):Nat->Nat
 | 0=>e
 | k+1=>Z2 (N20 e k) (2^k)
def N19(e:Nat)(p:List Nat)(m:Nat):Nat->Nat
 | 0=>m
 | k+1=>if e.testBit (p.getD k 0) then N19 e p m k ||| 2^k else N19 e p m k
def B53(p:List Nat)(e:Nat):Nat:=N19 e p (N20 e p.length) p.length
def G25(es p:List Nat):List Nat:=es.map (B53 p)
theorem N56(e w:Nat):∀ k,(N20 e k).testBit w=(e.testBit w&&decide (k<=w))
 | 0=>by simp[N20]
 | k+1=>by
  rw[N20,N1,N56 e w k,aR]
  by_cases h1:k=w
  .subst h1;simp
  .by_cases h2:k<=w
   .have h3:k+1<=w:=by omega
    simp[h1,h2,h3]
   .have h3:¬ k+1<=w:=by omega
    simp[h2,h3]
theorem J46(e:Nat)(p:List Nat)(m w:Nat):∀ k,(N19 e p m k).testBit w=(m.testBit w || (decide (w<k)&&e.testBit (p.getD w 0)))
 | 0=>by simp[N19]
 | k+1=>by
  rw[N19]
  split
  .rename_i h
   rw[aV,J46 e p m w k,aR]
   by_cases h1:k=w
   .subst h1;rw[h];simp
   .by_cases h2:w<k
    .have h3:w<k+1:=by omega
     simp[h1,h2,h3]
    .have h3:¬ w<k+1:=by omega
     simp[h1,h2,h3]
  .rename_i h
   rw[J46 e p m w k]
   by_cases h1:k=w
   .subst h1;simp at h;simp[h]
   .by_cases h2:w<k
    .have h3:w<k+1:=by omega
     simp[h2,h3]
    .have h3:¬ w<k+1:=by omega
     simp[h2,h3]
theorem V59(p:List Nat)(e w:Nat):(B53 p e).testBit w=e.testBit (if w<p.length then p.getD w 0 else w):=by
 unfold B53;rw[J46,N56]
 by_cases h:w<p.length
 .rw[if_pos h]
  have h2:¬ p.length<=w:=by omega
  simp[h,h2]
 .rw[if_neg h]
  have h2:p.length<=w:=by omega
  simp[h,h2]
theorem W46(es p:List Nat):(G25 es p).length=es.length:=by simp[G25]
structure IsF (f:Nat) (p:List Nat):Prop where
 nd:p.Nodup
 lt:∀ x ∈ p,x<f
 len:p.length=f
theorem IsF.all(h:IsF f p)(hv:v<f):v ∈ p:=aI fun hn=>by
 have h1:(v :: p).Nodup:=List.nodup_cons.2 ⟨hn,h.nd⟩;have h2:=List.Nodup.length_le_of_subset (l₂:=aY f) h1 fun x hx=>by
  rw[cW];rcases aU.1 hx with rfl | hx
  .exact hv
  .exact h.lt x hx
 rw[List.length_range,cV,h.len] at h2;omega
def sgm(p:List Nat)(v:Nat):Nat:=if v<p.length then p.getD v 0 else v
open Classical in
def tau(p:List Nat)(v:Nat):Nat:=if h:∃ u,u<p.length/\p.getD u 0=v then h.choose else v
section
variable {f n:Nat} {p:List Nat} (h:IsF f p)
include h
theorem IsF.at{u:Nat}(hu:u<f):p[u]? = some (p.getD u 0)/\p.getD u 0<f:=by
 have hl:=h.len;have e:p[u]? = some p[u]:=aE (by omega);have e2:p.getD u 0=p[u]:=by rw[aP,e];rfl
 exact⟨by rw[e2];exact e,by rw[e2];exact h.lt _ (List.getElem_mem _)⟩
theorem IsF.sgm_lt(v:Nat):sgm p v<f<->v<f:=by
 unfold sgm;rw[h.len]
 split
 .rename_i hv;exact⟨fun _=>hv,fun _=>(h.at hv).2⟩
 .exact Iff.rfl
theorem IsF.sgm_n(hf:f<=n)(v:Nat):sgm p v<n<->v<n:=by
 by_cases hv:v<f
 .have:=(h.sgm_lt v).2 hv
  omega
 .unfold sgm
  rw[h.len,if_neg hv]
theorem IsF.ren(es:List Nat):RnE (sgm p) (tau p) es (G25 es p):=by
 refine⟨fun v => ?_,fun v => ?_,fun e he=>⟨B53 p e,gN.2 ⟨e,he,rfl⟩,fun w=>V59 p e w⟩,fun e' J => ?_⟩
 .unfold tau
  by_cases hx:∃ u,u<p.length/\p.getD u 0=v
  .rw[dif_pos hx]
   unfold sgm;rw[if_pos hx.choose_spec.1];exact hx.choose_spec.2
  .rw[dif_neg hx]
   have hv:¬ v<f:=fun hv=>by
    obtain⟨u,hu⟩:=cH (h.all hv);have E:=(aJ.1 hu).1;exact hx ⟨u,E,by rw[aP,hu];rfl⟩
   unfold sgm;rw[h.len,if_neg hv]
 .unfold tau
  by_cases hv:v<f
  .have hs:sgm p v=p.getD v 0:=by unfold sgm;rw[h.len,if_pos hv]
   have hx:∃ u,u<p.length/\p.getD u 0=sgm p v:=⟨v,by rw[h.len];exact hv,hs.symm⟩
   rw[dif_pos hx];have h1:=hx.choose_spec;have h2:=(h.at (u:=hx.choose) (by rw[<- h.len];exact h1.1)).1;exact B43 h.nd (h2.trans (congrArg some (h1.2.trans hs))) (h.at hv).1
  .have hs:sgm p v=v:=by unfold sgm;rw[h.len,if_neg hv]
   rw[hs];have hx:¬ ∃ u,u<p.length/\p.getD u 0=v:=fun⟨u,h1,h2⟩=>hv (by rw[<- h2];exact(h.at (u:=u) (by rw[<- h.len];exact h1)).2)
   rw[dif_neg hx]
 .obtain⟨e,he,rfl⟩:=gN.1 J
  exact⟨e,he,fun w=>V59 p e w⟩
end
def U78(es:List Nat)(n f:Nat):Prop:=PE es/\¬ U25 (N10 es) n f []/\¬ R52 es f
end
end Go.Proofs.YtoiioigihocgbaaGreatDoor
namespace Go.Clo
section
variable {H H':Y0} {M:Nat->Option Value} {r:Nat}
def D4(H:Y0)(r:Nat)(M:Nat->Option Value):Prop:=∃ es c,J0 H r=some (.map es c)/\(∀ x ∈ es,MapKept.IsKey (.int .i64) x.key) /\
 (∀(i j:Nat) (x y:MapEntry),es[i]? = some x->es[j]? = some y->x.key=y.key->i=j)/\∀(n:Nat) (v:Value),M n=some v<->∃ x ∈ es,x.key = .int .i64 (n:Int)/\x.val=v
theorem D4.same(h:D4 H r M)(e:J0 H' r=J0 H r):D4 H' r M:=by
 obtain⟨es,c,h1,h2,h3,h4⟩:=h;exact⟨es,c,by rw[e];exact h1,h2,h3,h4⟩
theorem D4.ext{nx:Nat}{nx':Nat}(h:D4 H r M)(hr:r<nx)(e:D0 H nx H' nx'):D4 H' r M:=h.same (e.get r hr)
theorem D4.congr{M':Nat->Option Value}(h:D4 H r M)(e:∀ n,M' n=M n):D4 H r M':=by rw[show M'=M from funext e];exact h
theorem D4.nil{c:Nat}(h:J0 H r=some (.map [] c)):D4 H r fun _=>none:=⟨[],c,h,by simp,by simp,by simp⟩
theorem D4.find{es:List MapEntry}{M:Nat->Option Value}(h2:∀ x ∈ es,MapKept.IsKey (.int .i64) x.key)(h3:∀(i j:Nat)(x y:MapEntry),es[i]? = some x->es[j]? = some y->x.key=y.key->i=j)
  (h4:∀(n:Nat)(v:Value),M n=some v<->∃ x ∈ es,x.key = .int .i64 (n:Int)/\x.val=v)(n:Nat):
  (M n=none/\dP (.int .i64) (.int .i64 (n:Int)) es 0=some none/\∀ x ∈ es,x.key ≠ .int .i64 (n:Int))\/∃ j e,M n=some e.val/\dP (.int .i64) (.int .i64 (n:Int)) es 0=some (some (j,e.val))/\es[j]? = some e/\e.key = .int .i64 (n:Int):=by
 rcases MapKept.findNow_spec (d := .int .i64) (k := .int .i64 (n:Int)) rfl es 0 h2 with ⟨h,hn⟩ | ⟨j,e,h,hj,hk⟩
 .refine .inl ⟨?_,h,hn⟩
  cases hM:M n with
  | none=>rfl
  | some v=>
   obtain⟨x,hx,E,_⟩:=(h4 n v).1 hM;exact absurd E (hn x hx)
 .refine .inr ⟨j,e,(h4 n _).2 ⟨e,aH hj,hk,rfl⟩,?_,hj,hk⟩
  rw[h,cF]
theorem D4.lk{r:Nat}{M:Nat->Option Value}(h:D4 H r M)(n:Nat)(z:Value)(ok:Bool)(k:VP):
  wLk (.int .i64) z (.map (some r)) (.int .i64 (n:Int)) ok H k=(M n).elim (cond ok (k (.tuple ⟨[z,.bool false]⟩)) (k z)) fun v=>cond ok (k (.tuple ⟨[v,.bool true]⟩)) (k v):=by
 obtain⟨es,c,h1,h2,h3,h4⟩:=h;unfold wLk;rw[show Q9 (.int .i64) (.int .i64 (n:Int))=true from rfl];simp only[cond_true];rw[Y4,h1];simp only[aN];rcases D4.find h2 h3 h4 n with ⟨hM,hf,_⟩ | ⟨j,e,hM,hf,_⟩
 .rw[hf,hM];rfl
 .rw[hf,hM];rfl
theorem D4.lkN'{M:Nat->Option Value}(h:D4 H r M){n:Nat}(hn:M n=none)(z:Value)(k:VP):wLk (.int .i64) z (.map (some r)) (.int .i64 (n:Int)) false H k=k z:=by
 rw[h.lk,hn];rfl
theorem D4.lkS'{M:Nat->Option Value}(h:D4 H r M){n:Nat}{v:Value}(hn:M n=some v)(z:Value)(k:VP):wLk (.int .i64) z (.map (some r)) (.int .i64 (n:Int)) false H k=k v:=by
 rw[h.lk,hn];rfl
theorem M31{n m:Nat}(h:cD .i64 (n:Int) = .int .i64 (m:Int)):n=m:=by
 injection h with _ h;omega
theorem D4.put{nx r:Nat}{M:Nat->Option Value}(h:D4 H r M)(n:Nat)(v:Value){k:EP}(hk:∀ es c,D4 (hs H r (some (.map es c))) r (fun t=>if t=n then some v else M t)->k undef (hs H r (some (.map es c))) nx):
  W56 (.int .i64) (.map (some r)) (.int .i64 (n:Int)) v H nx k:=by
 obtain⟨es,c,h1,h2,h3,h4⟩:=h;unfold W56;dsimp only;rw[Y4,h1];simp only[aN,G52];rw[show Q9 (.int .i64) (.int .i64 (n:Int))=true from rfl];rcases D4.find h2 h3 h4 n with ⟨hM,hf,V⟩ | ⟨j,e,hM,hf,hj,U⟩
 .rw[hf]
  simp only[cond_true];rw[V14,G1,G4];refine hk _ _ ⟨_,_,Z11 _ _ _,?_,?_,fun t u => ?_⟩
  .intro x hx
   rcases dN.1 hx with hx | hx
   .exact h2 x hx
   .rw[dJ.1 hx];rfl
  .intro i j x y hx hy O
   rw[List.getElem?_append] at hx hy
   split at hx<;>split at hy
   .exact h3 i j x y hx hy O
   .have Z:y={ key := .int .i64 (n:Int),val:=v,born:=c }:=by
     have:=aH hy;simpa using this
    rw[Z] at O;exact absurd O (V x (aH hx))
   .have a1:x={ key := .int .i64 (n:Int),val:=v,born:=c }:=by
     have:=aH hx;simpa using this
    rw[a1] at O;exact absurd O.symm (V y (aH hy))
   .have h5:=(aJ.1 hx).1
    have h6:=(aJ.1 hy).1;simp at h5 h6;omega
  .by_cases Q:t=n
   .subst Q
    dsimp only;rw[if_pos rfl]
    constructor
    .intro hu
     cases hu
     exact⟨_,List.mem_append_right _ (dJ.2 rfl),rfl,rfl⟩
    .rintro⟨x,hx,E,J⟩
     rcases dN.1 hx with hx | hx
     .exact absurd E (V x hx)
     .rw[dJ.1 hx] at J
      rw[<- J]
   .dsimp only
    rw[if_neg Q,h4]
    constructor
    .rintro⟨x,hx,h⟩
     exact⟨x,dX _ hx,h⟩
    .rintro⟨x,hx,E,J⟩
     rcases dN.1 hx with hx | hx
     .exact⟨x,hx,E,J⟩
     .rw[dJ.1 hx] at E
      exact absurd (M31 E).symm Q
 .rw[hf]
  simp only[cond_true];rw[Q8,hj];simp only;rw[V14,G4,K25];have a0:=(aJ.1 hj).1;refine hk _ _ ⟨_,_,Z11 _ _ _,?_,?_,fun t u => ?_⟩
  .intro x hx
   rcases List.mem_or_eq_of_mem_set hx with hx | rfl
   .exact h2 x hx
   .rfl
  .intro i i' x y hx hy O
   rw[cQ] at hx hy
   split at hx<;>split at hy
   .omega
   .rename_i g1 g2
    try rw[if_pos (by omega)] at hx
    cases hx
    have:=h3 j i' e y hj hy (U.trans O);omega
   .rename_i g1 g2
    try rw[if_pos (by omega)] at hy
    cases hy
    have:=h3 i j x e hx hj (O.trans U.symm);omega
   .exact h3 i i' x y hx hy O
  .by_cases Q:t=n
   .subst Q
    dsimp only;rw[if_pos rfl]
    constructor
    .intro hu
     cases hu
     exact⟨_,List.mem_set a0 _,rfl,rfl⟩
    .rintro⟨x,hx,E,J⟩
     obtain⟨i,hi⟩:=cH hx;rw[cQ] at hi
     split at hi
     .try rw[if_pos (by omega)] at hi
      cases hi
      rw[<- J]
     .rename_i g
      exact absurd (h3 j i e x hj hi (U.trans E.symm)) g
   .dsimp only
    rw[if_neg Q,h4]
    constructor
    .rintro⟨x,hx,E,J⟩
     obtain⟨i,hi⟩:=cH hx;have W:j≠i:=by
      rintro rfl;rw[hj] at hi
      cases hi
      exact Q (M31 (E.symm.trans U))
     refine⟨x,aH (i:=i) ?_,E,J⟩;rw[cQ,if_neg W];exact hi
    .rintro⟨x,hx,E,J⟩
     obtain⟨i,hi⟩:=cH hx;rw[cQ] at hi
     split at hi
     .try rw[if_pos (by omega)] at hi
      cases hi
      exact absurd (M31 E).symm Q
     .exact⟨x,aH hi,E,J⟩
theorem D4.clr(h:D4 H r M){k:Y0->Prop}(hk:∀ c,D4 (hs H r (some (.map [] c))) r (fun _=>none)->k (hs H r (some (.map [] c)))):M41 (.map (some r)) H k:=by
 obtain⟨es,c,h1,h2,h3,h4⟩:=h;unfold M41;dsimp only;rw[Y4,h1];simp only[aN];rw[G4];exact hk _ (D4.nil (Z11 _ _ _))
end
end Go.Clo
namespace Go.Proofs.YtoiioigihocgbaaGreatDoor
open Go.Clo Go.Inv
theorem W50{e N:Nat}(h:e<2^N):∀ k,N20 e k<2^N
 | 0=>h
 | k+1=>Z6 (W50 h k)
theorem U62{e m N:Nat}{p:List Nat}(hm:m<2^N):∀ k,k<=N->N19 e p m k<2^N
 | 0,_=>hm
 | k+1,h=>by
  have ih:=U62 (e:=e) (p:=p) hm k (by omega);rw[N19]
  split
  .exact Nat.or_lt_two_pow ih (Nat.pow_lt_pow_right (by omega) (by omega))
  .exact ih
theorem Y60{n:Nat}(hn:n<=6)(A:Option Addr)(es:List Nat)(cap:Nat)(P:Option Addr)(p:List Nat)(a4:Nat)(ad:∀ e ∈ es,e<2^n)(aw:es.length<=8)(hp:∀ x ∈ p,x<n)(b3:p.length<=n)(H:Y0)(nx:Nat)(hS:Sl H nx A (K12 es))(hP:Sl H nx P (U4 (p.map fun(x:Nat)=>(x:Int)))):
  Q2 Tryz.prog 21 [.slice A es.length cap,.slice P p.length a4] H nx fun r H' nx'=>(∃ B,r = .slice B es.length es.length/\Sl H' nx' B (K12 (G25 es p)))/\D0 H nx H' nx':=by
 have aj:2^n<=64:=aK (n:=2) (by omega) hn;refine spec21 ?_;unfold F21;refine B1 (m:=es.length) (fun m L H' nx'=>∃(i:Nat) (u:Value),m+i=es.length/\L=[u,.int .i64 (i:Int)]/\Acc nx H' nx' 1 u i (K12 (G25 (es.take i) p))/\D0 H nx H' nx') ?_ ⟨0,.slice none 0 0,by omega,rfl,Acc.nil _ _ _ _,D0.refl _ _⟩;rintro m ih L H2 nx2 ⟨i,u,hm,rfl,hA,O⟩ ah;have al:=O.le
 by_cases hi:i<es.length
 case neg=>
  have W:¬ (i:Int)<(es.length:Int):=by omega
  obtain rfl:i=es.length:=by omega
  obtain⟨B,rfl,hB⟩:=hA.sl;simp(disch:=first|omega|assumption)only[W0,Q0.val,W];rw[gJ (aD _)] at hB;exact⟨⟨B,rfl,hB⟩,O⟩
 have W:(i:Int)<(es.length:Int):=by omega
 obtain⟨e,he⟩:∃ e,es[i]? = some e:=⟨_,aE hi⟩
 obtain⟨b,o,row,rfl,hb,J,a6⟩:=(hS.ext O).open (i:=i) (by rw[E1];omega);have g0:=a6 _ _ (Q3 he);have a9:=ad e (aH he);simp(disch:=first|omega|assumption)only[W0,Q0.val,W,X3 J,g0];refine B1 (m:=p.length) (fun m L H' nx'=>∃ k:Nat,m+k=p.length/\L=[.int .u32 (N20 e k:Int),.int .i64 (k:Int)]/\H2=H'/\nx2=nx') ?_ ⟨0,by omega,rfl,rfl,rfl⟩;rintro m3 aq L3 _ _ ⟨k,az,rfl,rfl,rfl⟩ a5
 by_cases hk:k<p.length
 .have a3:(k:Int)<(p.length:Int):=by omega
  have ay:(k:Int)<18446744073709551616:=by omega
  have Z:k<32:=by omega
  have av:N20 e k<4294967296:=by have:=W50 a9 k;omega
  have pk:2^k<4294967296:=Y18 Z;simp(disch:=first|omega|assumption)only[W0,a3,Z10];exact a5 (m3-1) _ _ _ (by omega) ⟨k+1,by omega,by simp[N20],rfl,rfl⟩
 have a3:¬ (k:Int)<(p.length:Int):=by omega
 obtain rfl:k=p.length:=by omega
 simp(disch:=first|omega|assumption)only[W0,a3];refine B1 (m:=p.length) (fun m L H' nx'=>∃ k:Nat,m+k=p.length/\L=[.int .u32 (N19 e p (N20 e p.length) k:Int),.int .i64 (k:Int)]/\H2=H'/\nx2<=nx') ?_ ⟨0,by omega,rfl,rfl,aD _⟩;rintro m4 ax L4 _ a1 ⟨k,au,rfl,rfl,a8⟩ Q;have ai:N19 e p (N20 e p.length) k<2^n:=U62 (W50 a9 _) k (by omega)
 by_cases hk:k<p.length
 .have a0:(k:Int)<(p.length:Int):=by omega
  have Z:k<32:=by omega
  have ao:N19 e p (N20 e p.length) k<4294967296:=by omega
  have pk:2^k<4294967296:=Y18 Z;obtain⟨x,hx⟩:∃ x,p[k]? = some x:=⟨_,aE hk⟩
  have a7:p.getD k 0=x:=by rw[aP,hx];rfl
  have an:=hp x (aH hx);have ac:(p.map fun(x:Nat)=>(x:Int))[k]? = some (x:Int):=by rw[cP,hx];rfl
  obtain⟨b2,o2,ak,rfl,ap,E,a2⟩:=(hP.ext O).open (i:=k) (by rw[J6];omega);have g1:=a2 _ _ (Z9 ac);simp(disch:=first|omega|assumption)only[W0,a0,N13,X3 J,X3 E,g0,g1];refine R0 (W53 (by omega) (by omega) _ _) ?_;rintro _ _ _ ⟨rfl,rfl,rfl⟩
  cases U:e.testBit x with
  | false=>
   simp(disch:=first|omega|assumption)only[W0];refine Q (m4-1) _ _ _ (by omega) ⟨k+1,by omega,?_,rfl,by omega⟩;rw[N19,a7,if_neg (by rw[U];simp)];simp
  | true=>
   simp(disch:=first|omega|assumption)only[W0,Z10];refine Q (m4-1) _ _ _ (by omega) ⟨k+1,by omega,?_,rfl,by omega⟩;rw[N19,a7,if_pos U];simp
 have a0:¬ (k:Int)<(p.length:Int):=by omega
 obtain rfl:k=p.length:=by omega
 have ae:∀(x:Int) k,K6 1 1 [.int .u32 0] [(0,.int .u32 x)] k=k [.int .u32 x]:=fun x k=>rfl
 simp(disch:=first|omega|assumption)only[W0,a0,ae];have aa:D0 H2 a1 (hs H2 a1 (some (.cells [.int .u32 (N19 e p (N20 e p.length) p.length:Int)] 0))) (a1+1):=(D0.refl _ _).new _ (aD _) (by omega);have V:=(D0.self (H:=H2) a8).trans aa;refine Y20 (H0:=H) (lo:=nx) (m:=1) (l:=[.int .u32 (N19 e p (N20 e p.length) p.length:Int)]) (by omega) (hA.ext V) (J9 (Z11 _ _ _) rfl (by omega)) (by omega) rfl (by omega) (by omega) (O.trans V) (by omega) ?_;intro v' H' ab ag _;refine ah (m-1) _ _ _ (by omega) ⟨i+1,v',by omega,by simp,?_,ag⟩;have e1:K12 (G25 (es.take (i+1)) p)=K12 (G25 (es.take i) p)++[.int .u32 (N19 e p (N20 e p.length) p.length:Int)]:=by
  rw[C7 he];simp[G25,K12,B53]
 rw[e1];exact ab
section
variable (a0 a1 a2:Value) (H:Y0) (nx:Nat) (k:EP)
def F6:Prop:=
 M12 a0 H nx fun b c d=>
 Y2 Tryz.prog 8 [] c d fun c d e=>
 wUn .not c fun c=>
 K2 c (
 Rt bF d e k) (
 V4 (fun c=>
 J1 b (some 2) d fun f=>
 Y2 Tryz.prog 9 [f,a1] d e fun d e f=>
 wUn .not d fun d=>
 K3 false d (
 J1 b (some 2) e fun b=>
 Y2 Tryz.prog 11 [b,a1] e f fun b d e=>
 D10 .neq b i0 fun b=>
 K3 false b (
 Y2 Tryz.prog 22 [a2,i0,a1] d e fun b d e=>
 wUn .not b fun b=>
 c [b] d e) (
 c [bT] d e)) (
 c [bT] e f)) (fun c d e=>
 K2 c.a (
 Rt bT d e k) (
 J1 b (some 2) d fun c=>
 Y2 Tryz.prog 10 [c,a1] d e fun c d e=>
 G9 c 0 fun f=>
 G9 c 1 fun c=>
 wAl [.int .i64 0,.slice none 0 0,.slice none 0 0] d e fun d e g=>
 D5 d f 3 e fun e=>
 M2 (g+15) fun f=>
 wFl b 0 e fun h i=>
 wFl b 1 e fun b j=>
 Y2 Tryz.prog 21 [j,a2] e f fun f l m=>
 U11 [.int .i64 0,.slice none 0 0] [(0,1),(1,1)] [(0,i),(1,f)] fun f=>
 Y2 Tryz.prog 10 [f,a1] l m fun f m n=>
 G9 f 0 fun o=>
 G9 f 1 fun f=>
 wNm g 12 .ptr fun p=>
 E6 m (g+12) (some (.cells [.int .i64 0,.slice none 0 0,.slice none 0 0] 0)) fun g=>D5 p o 3 g fun g=>
 wK ((tA (tA (tA (tB (cE b none e j)))))/\(tB (tA (tA ((cE h none l i)/\(tB (cE h none e i))))))) (
 D10 .eql c i0 fun b=>
 K3 true b (
 D10 .eql f i0 fun b=>
 K3 true b (
 wFl d 0 g fun _ b=>
 D10 .eql b i1 fun b=>
 wFl p 0 g fun _ c=>
 D10 .eql c i1 fun c=>
 D9 (.eqb false) [b,c] fun b=>
 K3 true b (
 wFl d 0 g fun _ b=>
 D10 .eql b (.int .i64 2) fun b=>
 wFl p 0 g fun _ c=>
 D10 .eql c (.int .i64 2) fun c=>
 D9 (.eqb false) [b,c] fun b=>
 Rt b g n k) (
 Rt bF g n k)) (
 Rt bF g n k)) (
 Rt bF g n k)))))
variable {a0 a1 a2 H nx k}
theorem spec6:F6 a0 a1 a2 H nx k->Q2 Tryz.prog 6 [a0,a1,a2] H nx k:=Q12 [(5,[28])] [] [.one (.tst (.one (.tst (.one .nil) (.one .nil))) (.one (.one (.one .nil)))),.one (.tst (.one (.tst (.one (.tst (.one .nil) (.one .nil))) (.one (.one (.one .nil))))) (.one (.one (.one (.one (.one .nil))))))]
end
end Go.Proofs.YtoiioigihocgbaaGreatDoor
