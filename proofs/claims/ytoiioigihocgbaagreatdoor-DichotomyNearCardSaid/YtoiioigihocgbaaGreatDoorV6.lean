/-
  Plain: the length of the shortest chordless cycle.
  Plain: a shortest chordless cycle is found.
  .
  .
  .
  .
  .
  .
  .
  Plain: the best width is at most 1 exactly if the graph is acyclic,has no free path and no disruptive trio.
  Plain: connex.Path finds a path exactly if there is a free path.
  Plain: hypergraph.Obstruction finds nothing exactly if the graph is acyclic.
  Plain: inversions,and counting them while runs are merged.
  Plain: the nearest order by trying all (the reference) and with cuts (the program) is one.
  MADE BY PROGRAM (wip/gen/gen.py): functions 85 53 54 86 87 52 19 84 83 50 17 89 56 23 21 20 51 18 4 as marked code,and their claims written out.
  Contracts: dichotomy.clique,the closure of search,search.
  Contract: dichotomy.search.
  Contracts: hypergraph.absorb,isolate,slices.ContainsFunc (from l30's S21 .. S24).
  Contracts: slices.Clone of sets,hypergraph.Reduce,Acyclic: an elimination order with bags inside edges exists.
  Plain: renaming the free variables;which orders the reference accepts.
  Maps from int to values.
  Contracts: the reference's Renamed,Inversions.
  MADE BY PROGRAM (wip/gen/gen.py): functions 6 5 as marked code,and their claims written out.
  Plain: the nearest order exists,is accepted,and is the order itself exactly if that is accepted.
-/
import Derived.Test.YtoiioigihocgbaaGreatDoorV5
import Derived.Test.YtoiioigihocgbaaGreatDoorV4
import Derived.Test.YtoiioigihocgbaaGreatDoorV1
import Derived.KernelRfl
set_option maxHeartbeats 8000000
set_option maxRecDepth 100000
set_option linter.all false
noncomputable section
open Bool renaming and_eq_true->aG,eq_false_iff->bN,eq_iff_iff->eX,not_eq_true'->cJ,or_eq_true->cO,true_and->iA
open Classical renaming byContradiction->aI
open Go.Instr renaming findNow->dP
open Go.Proofs.Tryz renaming prog->gQ
open Go.Value renaming bool->dU,int->cD
open List renaming all_eq_true->bW,any_eq_true->dY,append_nil->gV,cons_append->dL,countP_eq_length_filter->fS,ext_getElem?->dH,foldl_cons->dF,getD_eq_getElem?_getD->aP,getElem?_eq_getElem->aE,getElem?_eq_none->aT,getElem?_eq_some_iff->aJ,getElem?_map->cP,getElem?_of_mem->cH,getElem?_set->cQ,getElem?_set_ne->bL,getElem?_set_self->dG,getElem_of_mem->gL,length_append->bH,length_cons->cV,length_eq_zero_iff->dT,length_filter_lt_length_iff_exists->fG,length_map->gM,length_set->dO,length_singleton->gU,length_take->cK,mem_append->dN,mem_append_left->dX,mem_cons->aU,mem_filter->dA,mem_map->gN,mem_of_getElem?->aH,mem_range->cW,mem_singleton->dJ,nil_append->eR,nodup_append->gT,nodup_cons->hO,pairwise_iff_getElem->fD,range->aY,replicate->aF,take_of_length_le->gJ
open List.Nodup renaming length_le_of_subset->iB
open Nat renaming add_assoc->eH,add_mul->dM,ble->dD,eq_of_beq_eq_true->bT,eq_of_testBit_eq->bZ,eq_zero_or_pos->cI,le_of_lt->eG,le_refl->aD,le_trans->bK,lt_of_le_of_lt->cE,lt_of_lt_of_le->aO,lt_or_ge->aW,mod_eq_of_lt->bV,mod_lt->eZ,mul_add->bJ,mul_le_mul->eL,mul_one->eQ,pow_le_pow_right->aK,testBit_and->bI,testBit_or->aV,testBit_two_pow->aR,testBit_two_pow_sub_one->dC,two_pow_pos->aQ,zero_add->cF,zero_testBit->jQ
open Ne renaming symm->eT
open Option renaming elim_some->aN,isSome_none->gO
open Rat renaming mul_nonneg->fY
namespace Go.Clo
section
variable {to u v w within:Nat}
def Wf(A:Nat->Nat->Prop)(P:Nat->Prop)(j u w:Nat):Prop:=∃ f:Nat->Nat,f 0=u/\f j=w/\(∀ i,i<j->A (f i) (f (i+1)))/\∀ i,0<i->i<=j->P (f i)
section
variable {A:Nat->Nat->Prop} {P:Nat->Prop} {j u w:Nat}
theorem Wf.zero:Wf A P 0 u w<->u=w:=
 ⟨fun⟨f,h1,h2,_⟩=>h1.symm.trans h2,fun h=>⟨fun _=>u,rfl,h,fun i hi=>O0,fun i h0 hi=>O0⟩⟩
theorem Wf.snoc:Wf A P (j+1) u w<->P w/\∃ y,Wf A P j u y/\A y w:=by
 constructor
 .rintro⟨f,h1,h2,h3,h4⟩
  refine⟨?_,f j,⟨f,h1,rfl,fun i hi=>h3 i O0,fun i a b=>h4 i a O0⟩,?_⟩
  .grind
  grind
 .rintro⟨hP,y,⟨f,h1,h2,h3,h4⟩,ha⟩
  refine⟨fun i=>if i<=j then f i else w,by simp[h1],if_neg O0,fun i hi => ?_,fun i h0 hi => ?_⟩
  .grind
  grind
theorem Wf.cons{x:Nat}(hx:A u x)(hP:P x)(h:Wf A P j x w):Wf A P (j+1) u w:=by
 obtain⟨f,h1,h2,h3,h4⟩:=h;refine⟨fun i=>if i=0 then u else f (i-1),O2,by simp[h2],fun i hi => ?_,fun i h0 hi => ?_⟩
 .grind
 grind
theorem Wf.rch:∀{j w:Nat},0<j->Wf A P j u w->V9 A P u w
 | 0,_,h,_=>O0
 | j+1,w,_,h=>by
  obtain⟨_,y,h1,h2⟩:=Wf.snoc.1 h
  cases j with
  | zero=>obtain rfl:=Wf.zero.1 h1;exact .one h2
  | succ j=>exact(Wf.rch O0 h1).trans (Wf.snoc.1 h1).1 (.one h2)
theorem V9.wf(h:V9 A P u w)(hw:P w):∃ j,0<j/\Wf A P j u w:=by
 induction h with
 | one h1=>exact⟨1,O0,Wf.cons h1 hw (Wf.zero.2 rfl)⟩
 | more h1 h2 _ ih=>
  obtain⟨j,_,hj⟩:=ih hw;exact⟨j+1,O0,Wf.cons h1 h2 hj⟩
theorem Wf.least:∀(j:Nat),Wf A P j u w->∃ i,i<=j/\Wf A P i u w/\∀ k,k<i->¬ Wf A P k u w:=by
 intro j
 induction j using Nat.strongRecOn with
 | _ j ih=>
  grind
theorem Wf.gap{s:Nat}(h:∀ x,¬ (Wf A P s u x/\∀ k,k<s->¬ Wf A P k u x)):∀ d x,¬ (Wf A P (s+d) u x/\∀ k,k<s+d->¬ Wf A P k u x)
 | 0,x,g=>h x g
 | d+1,x,⟨g1,g2⟩=>by
  obtain⟨hP,y,h1,h2⟩:=Wf.snoc.1 (show Wf A P (s+d+1) u x from g1);exact Wf.gap h d y ⟨h1,fun k hk g=>g2 (k+1) O0 (Wf.snoc.2 ⟨hP,y,g,h2⟩)⟩
end
section
variable {A:Nat->Nat->Prop} {aL:List Nat} {N:Nat} (hb:∀ u w,(aL.getD u 0).testBit w=true<->A u w) (hAN:∀ u w,A u w->u<N/\w<N)
include hb hAN
theorem W69(b:Nat):Q4 aL b N<2^N:=Nat.lt_pow_two_of_testBit _ fun w hw=>bN.2 fun h=>by
 grind[Y7]
theorem V69:∀(k s E b:Nat),b<2^N->E<2^N->N<=k+(V5 N E).length ->
  (∀ x,b.testBit x=true<->Wf A (fun x=>within.testBit x=true) s u x/\∀ j,j<s->¬ Wf A (fun x=>within.testBit x=true) j u x)->(∀ x,E.testBit x=true<->∃ j,j<s/\Wf A (fun x=>within.testBit x=true) j u x) ->
  (∀ j,j<=s->¬ Wf A (fun x=>within.testBit x=true) j u to) ->
  (W84 aL N to within k E b (s+1)=0/\∀ j,¬ Wf A (fun x=>within.testBit x=true) j u to) \/
  (0<W84 aL N to within k E b (s+1)/\Wf A (fun x=>within.testBit x=true) (W84 aL N to within k E b (s+1)) u to/\∀ j,j<W84 aL N to within k E b (s+1)->¬ Wf A (fun x=>within.testBit x=true) j u to):=by
 intro k;have none:∀(s b:Nat),b=0->(∀ x,b.testBit x=true<->Wf A (fun x=>within.testBit x=true) s u x/\∀ j,j<s->¬ Wf A (fun x=>within.testBit x=true) j u x) ->
   (∀ j,j<=s->¬ Wf A (fun x=>within.testBit x=true) j u to)->∀ j,¬ Wf A (fun x=>within.testBit x=true) j u to:=by
  rintro s b rfl h1 h2 j hj;obtain⟨i,_,h3,h4⟩:=Wf.least j hj
  by_cases hi:i<=s
  .exact h2 i hi h3
  .obtain⟨d,rfl⟩:∃ d,i=s+d:=⟨i-s,O0⟩
   grind[Wf.gap]
 induction k with
 | zero=>
  intro s E b h1 h2 h3 h4 h5 h6;have J:b=0:=X20 (N:=N) h1 (fun v hv=>bN.2 fun hc=>by
   obtain⟨j,hj,hw⟩:=(h5 v).1 hc;exact((h4 v).1 hv).2 j hj hw) (by have:=Q15 N E;omega)
  exact .inl ⟨rfl,none s b J h4 h6⟩
 | succ k ih=>
  intro s E b h1 h2 h3 h4 h5 h6
  by_cases J:b=0
  .exact .inl ⟨by rw[W84,if_pos J],none s b J h4 h6⟩
  have hd:∀ v,b.testBit v=true->E.testBit v=false:=fun v hv=>bN.2 fun hc=>by
   grind
  have O:∀ x,(Z2 (Q4 aL b N &&& within) (E ||| b)).testBit x=true<->Wf A (fun x=>within.testBit x=true) (s+1) u x/\∀ j,j<s+1->¬ Wf A (fun x=>within.testBit x=true) j u x:=fun x=>by
   rw[N1,bI,aV,aG,aG,cJ,Bool.or_eq_false_iff]
   constructor
   .grind[Y7,Wf.snoc,Wf]
   .rintro⟨g1,g2⟩
    obtain⟨hP,y,y1,y2⟩:=Wf.snoc.1 g1;refine⟨⟨Y7.2 ⟨y,(hAN _ _ y2).1,(h4 y).2 ⟨y1,fun j hj hw=>g2 (j+1) O0 (Wf.snoc.2 ⟨hP,y,hw,y2⟩)⟩,(hb _ _).2 y2⟩,hP⟩,bN.2 fun hc => ?_,bN.2 fun hc => ?_⟩
    .grind
    simp_all
  rw[W84,if_neg J]
  by_cases ht:(Z2 (Q4 aL b N &&& within) (E ||| b)).testBit to=true
  .simp_all
  .rw[if_neg ht]
   refine ih (s+1) (E ||| b) _ (Z6 (W37 (W69 hb hAN b))) (Z26 h2 h1) ?_ O (fun x => ?_) (fun j hj hw => ?_)
   .have:=R25 h1 J hd
    omega
   .grind
   grind
theorem D36(hu:u<N)(E:u≠to):
  (B75 aL N u to within=0/\∀ j,¬ Wf A (fun x=>within.testBit x=true) j u to) \/
  (0<B75 aL N u to within/\Wf A (fun x=>within.testBit x=true) (B75 aL N u to within) u to/\∀ j,j<B75 aL N u to within->¬ Wf A (fun x=>within.testBit x=true) j u to):=by
 refine V69 hb hAN (u:=u) N 0 0 (2^u) (R27 hu) (aQ N) O0 (fun x => ?_) (fun x => ?_) (fun j hj hw => ?_)
 .grind[Wf.zero]
 .simp_all
 grind[Wf.zero]
theorem R65{d:Nat}(hu:u<N)(E:u≠to)(h1:Wf A (fun x=>within.testBit x=true) d u to)(h2:∀ j,j<d->¬ Wf A (fun x=>within.testBit x=true) j u to):B75 aL N u to within=d:=by
 rcases D36 hb hAN (within:=within) hu E with ⟨_,h⟩ | ⟨_,h3,h4⟩
 .exact absurd h1 (h d)
 grind
end
def CyI(d:Nat->Nat->Nat->Nat)(T:Nat->Nat->Nat->Prop)(l:Nat):Prop:=(∀ v u w,T v u w->0<d v u w->0<l/\l<=d v u w+2)/\(0<l->∃ v u w,T v u w/\0<d v u w/\l=d v u w+2)
theorem CyI.iff{d:Nat->Nat->Nat->Nat}{T T':Nat->Nat->Nat->Prop}{l:Nat}(h:CyI d T l)(e:∀ v u w,T' v u w<->T v u w):CyI d T' l:=
 ⟨fun v u w g=>h.1 v u w ((e v u w).1 g),fun g=>by obtain⟨v,u,w,a,b⟩:=h.2 g;grind⟩
theorem CyI.add{d:Nat->Nat->Nat->Nat}{T:Nat->Nat->Nat->Prop}{l:Nat}(h:CyI d T l)(v u w:Nat):CyI d (fun a b c=>T a b c\/(a=v/\b=u/\c=w)) (cyD (d v u w) l):=by
 obtain⟨h1,h2⟩:=h;unfold cyD
 split
 .rename_i hc
  refine⟨fun a b c g g2 => ?_,fun _=>⟨v,u,w,.inr ⟨rfl,rfl,rfl⟩,hc.1,rfl⟩⟩
  grind
 .rename_i hc
  refine⟨fun a b c g g2 => ?_,fun g=>by grind⟩
  grind
section
variable {aL:List Nat} {N:Nat}
def Cnd(aL:List Nat)(v u w:Nat):Prop:=(nbB aL v u&&nbB aL v w && !nbB aL u w)=true
theorem R63{T:Nat->Nat->Nat->Prop}{l v u:Nat}(h:CyI (fun v u w=>B75 aL N u w (D86 aL N v u w)) T l):∀ w,CyI (fun v u w=>B75 aL N u w (D86 aL N v u w)) (fun a b c=>T a b c\/(a=v/\b=u/\c<w/\Cnd aL a b c)) (cyW aL N v u l w)
 | 0=>h.iff fun a b c=>O2
 | w+1=>by
  have ih:=R63 h (v:=v) (u:=u) w;rw[cyW]
  split
  .rename_i hc
   refine(ih.add v u w).iff fun a b c => ?_
   constructor
   .grind
   .rintro ((g | ⟨rfl,rfl,g,g2⟩) | ⟨rfl,rfl,rfl⟩)
    .exact .inl g
    .grind
    .exact .inr ⟨rfl,rfl,O0,hc⟩
  .rename_i hc
   refine ih.iff fun a b c => ?_
   constructor
   .rintro (g | ⟨rfl,rfl,g,g2⟩)
    .exact .inl g
    .by_cases e:c=w
     .subst e;exact absurd g2 hc
     grind
   grind
theorem Z61{T:Nat->Nat->Nat->Prop}{l v:Nat}(h:CyI (fun v u w=>B75 aL N u w (D86 aL N v u w)) T l):∀ u,CyI (fun v u w=>B75 aL N u w (D86 aL N v u w)) (fun a b c=>T a b c\/(a=v/\b<u/\c<b/\Cnd aL a b c)) (cyU aL N v l u)
 | 0=>h.iff fun a b c=>O2
 | u+1=>by
  have ih:=R63 (Z61 h (v:=v) u) (v:=v) (u:=u) u
  grind[cyU]
theorem J49:∀ v,CyI (fun v u w=>B75 aL N u w (D86 aL N v u w)) (fun a b c=>a<v/\b<N/\c<b/\Cnd aL a b c) (cyV aL N v)
 | 0=>⟨fun a b c g=>by have:=g.1;omega,fun h=>absurd h (Nat.lt_irrefl 0)⟩
 | v+1=>by
  have ih:=Z61 (J49 v) (v:=v) N
  grind[cyV]
variable {A:Nat->Nat->Prop} (hb:∀ u w,(aL.getD u 0).testBit w=true<->A u w) (hAN:∀ u w,A u w->u<N/\w<N) (hA:∀ a b,A a b->A b a) (hI:∀ a,¬ A a a)
include hb hAN
theorem G43:Cnd aL v u w<->A v u/\A v w/\¬ A u w:=by
 unfold Cnd nbB
 grind
theorem B33{x:Nat}:(D86 aL N v u w).testBit x=true<->(x<N/\¬ A v x/\x≠v)\/x=u\/x=w:=by
 unfold D86
 grind[N1]
include hA
theorem E73:cyV aL N N=0<->Chd A:=by
 obtain⟨i1,i2⟩:=J49 (aL:=aL) (N:=N) N
 constructor
 .intro h0
  have E:∀ v u w,w<u->A v u->A v w->¬ A u w->¬ V9 A (fun x=>(¬ A v x/\x≠v)\/x=u\/x=w) u w:=fun v u w O hu hw hn r=>by
   have Q:∀ x,(∃ y,A x y)->((¬ A v x/\x≠v)\/x=u\/x=w)->(D86 aL N v u w).testBit x=true:=fun x ⟨y,hy⟩ h=>(B33 hb hAN).2 (by
    grind)
   have r2:V9 A (fun x=>(D86 aL N v u w).testBit x=true) u w:=by
    clear hn;generalize hG:(fun x=>(D86 aL N v u w).testBit x=true)=G;have key:∀ {a b:Nat},V9 A (fun x=>(¬ A v x/\x≠v)\/x=u\/x=w) a b->V9 A G a b:=fun r=>by
     induction r with
     | one h=>exact .one h
     | more h1 h2 _ ih=>exact .more h1 (by grind) ih
    exact key r
   obtain⟨j,_,hj⟩:=r2.wf ((B33 hb hAN).2 (.inr (.inr rfl)));have J:=(hAN _ _ hu)
   rcases D36 hb hAN (within:=D86 aL N v u w) (to:=w) J.2 O0 with ⟨_,h⟩ | ⟨h,_⟩
   .exact h j hj
   .have:=i1 v u w ⟨J.1,J.2,O,(G43 hb hAN).2 ⟨hu,hw,hn⟩⟩ h
    omega
  intro v u w hu hw U hn r
  by_cases h:w<u
  .exact E v u w h hu hw hn r
  .exact E v w u O0 hw hu (fun g=>hn (hA _ _ g)) ((r.symm hA).mono fun x hx=>by
    grind)
 .intro hC
  refine aI fun h0 => ?_
  obtain⟨v,u,w,⟨g0,g1,g2,g3⟩,hd,_⟩:=i2 O0;obtain⟨hu,hw,hn⟩:=(G43 hb hAN).1 g3;rcases D36 hb hAN (within:=D86 aL N v u w) (to:=w) g1 O0 with ⟨h,_⟩ | ⟨h,h1,_⟩
  .simp_all
  .refine hC v u w hu hw O0 hn ((Wf.rch h h1).mono fun x hx => ?_)
   rcases (B33 hb hAN).1 hx with hx | hx
   .exact .inl hx.2
   .exact .inr hx
end
end
section
variable {A:Nat->Nat->Prop} {P:Nat->Prop} {blk j k last start v x:Nat}
theorem M57{s:Nat}(hs:s<31):(Q90 s).testBit x=true<->s<x/\x<32:=by
 have h1:2^(s+1)<4294967296:=by
  have:=Nat.pow_lt_pow_right (a:=2) O0 (show s+1<32 by omega);omega
 have h2:0<2^(s+1):=aQ _;unfold Q90;rw[show 4294967295-(2^(s+1)-1)=2^32-((2^(s+1)-1)+1) by omega,Nat.testBit_two_pow_sub_succ O0,dC];simp;omega
theorem Wf.mono{Q:Nat->Prop}{u w:Nat}(h:∀ x,(∃ y,A y x)->P x->Q x)(g:Wf A P j u w):Wf A Q j u w:=by
 obtain⟨f,h1,h2,h3,h4⟩:=g;refine⟨f,h1,h2,h3,fun i h0 hi=>h _ ⟨f (i-1),?_⟩ (h4 i h0 hi)⟩;have:=h3 (i-1) O0;rwa [show i-1+1=i by omega] at this
theorem Wf.suffix {f:Nat->Nat} (h3:∀ i,i<j->A (f i) (f (i+1))) (h4:∀ i,0<i->i<=j->P (f i)) {i:Nat} (hi:i<=j):Wf A P (j-i) (f i) (f j):=
 ⟨fun t=>f (i+t),rfl,by show f (i+(j-i))=f j;rw[show i+(j-i)=j by omega],fun t ht=>h3 (i+t) (by omega),fun t h0 ht=>h4 (i+t) (by omega) (by omega)⟩
theorem N74(c:Nat->Nat):∃ m,∀ i,c m<=c i:=by
 have key:∀ n m,c m=n->∃ m,∀ i,c m<=c i:=fun n=>by
  induction n using Nat.strongRecOn with
  | _ n ih=>
   intro m hm
   by_cases h:∃ i,c i<n
   .obtain⟨i,hi⟩:=h
    exact ih _ hi i rfl
   .exact⟨m,fun i=>aI fun g=>h ⟨i,O0⟩⟩
 exact key _ 0 rfl
section
variable {A:Nat->Nat->Prop} {aL:List Nat} {N:Nat} (hN:N<=6) (hb:∀ u w,(aL.getD u 0).testBit w=true<->A u w) (hAN:∀ u w,A u w->u<N/\w<N) (hA:∀ a b,A a b->A b a) (hI:∀ a,¬ A a a)
include hN hb hAN
def ExW(A:Nat->Nat->Prop)(blk start last v x:Nat):Prop:=(start<x/\x<32/\¬ (blk.testBit x=true\/A last x\/x=last))\/x=v\/x=start
theorem J38:(W87 aL blk last).testBit x=true<->blk.testBit x=true\/A last x\/x=last:=by
 unfold W87;rw[aV,aV,aR,cO,cO,decide_eq_true_eq,hb,or_assoc];exact or_congr Iff.rfl (or_congr Iff.rfl eq_comm)
theorem U50(hs:start<N):((Z2 (Q90 start) (W87 aL blk last) ||| 2^v) ||| 2^start).testBit x=true<->ExW A blk start last v x:=by
 unfold ExW;rw[aV,aV,aR,aR,N1,cO,cO,aG,cJ,<- Bool.not_eq_true,M57 O0,J38 hN hb hAN,decide_eq_true_eq,decide_eq_true_eq,or_assoc,and_assoc];exact or_congr Iff.rfl (or_congr eq_comm eq_comm)
theorem U45(hs:start<N):Z91 aL N k blk start last v=true<->(A last v/\start<v/\blk.testBit v=false)/\B75 aL N v start ((Z2 (Q90 start) (W87 aL blk last) ||| 2^v) ||| 2^start)=k:=by
 unfold Z91;rw[aG,decide_eq_true_eq,N1,bI,aG,aG,hb,M57 O0,cJ]
 constructor
 .rintro⟨⟨⟨h1,h2,_⟩,h3⟩,h4⟩;exact⟨⟨h1,h2,h3⟩,h4⟩
 .rintro⟨⟨h1,h2,h3⟩,h4⟩;exact⟨⟨⟨h1,h2,by have:=(hAN _ _ h1).2;omega⟩,h3⟩,h4⟩
include hI
theorem C74 (hs:start<N) (h:Z91 aL N (k+2) blk start last v=true):∃ x,x<N/\Z91 aL N (k+1) (W87 aL blk last) start v x=true:=by
 obtain⟨⟨h1,h2,h3⟩,h4⟩:=(U45 hN hb hAN hs).1 h
 have hvN:=(hAN _ _ h1).2
 rcases D36 hb hAN (within:=(Z2 (Q90 start) (W87 aL blk last) ||| 2^v) ||| 2^start) (to:=start) hvN (by omega) with ⟨g,_⟩ | ⟨_,g1,g2⟩
 .omega
 rw[h4] at g1 g2
 have hP:∀ x,((Z2 (Q90 start) (W87 aL blk last) ||| 2^v) ||| 2^start).testBit x=true<->ExW A blk start last v x:=fun x=>U50 hN hb hAN hs
 have hP':∀ y x,((Z2 (Q90 start) (W87 aL (W87 aL blk last) v) ||| 2^y) ||| 2^start).testBit x=true<->ExW A (W87 aL blk last) start v y x:=fun y x=>U50 hN hb hAN hs
 simp only[hP] at g1 g2
 have g1':=g1
 obtain⟨f,f1,f2,f3,f4⟩:=g1
 have a1:=f3 0 (by omega)
 rw[f1] at a1
 have hx:start<f 1/\f 1<32/\¬ (blk.testBit (f 1)=true\/A last (f 1)\/f 1=last):=by
  rcases f4 1 (by omega) (by omega) with hx | hx | hx
  .exact hx
  .rw[hx] at a1;exact absurd a1 (hI _)
  .exact absurd (Wf.cons (j:=0) a1 (f4 1 (by omega) (by omega)) (Wf.zero.2 hx)) (g2 1 (by omega))
 refine⟨f 1,(hAN _ _ a1).2,(U45 hN hb hAN hs).2 ⟨⟨a1,hx.1,Bool.eq_false_iff.2 fun hc=>hx.2.2 ((J38 hN hb hAN).1 hc)⟩,?_⟩⟩
 refine R65 hb hAN (hAN _ _ a1).2 (by omega) ?_ fun j hj hw => ?_
 .simp only[hP']
  refine⟨fun t=>f (t+1),rfl,f2,fun i hi=>f3 (i+1) (by omega),fun i h0 hi => ?_⟩
  show ExW A (W87 aL blk last) start v (f 1) (f (i+1))
  by_cases e:i=k+1
  .subst e;exact .inr (.inr f2)
  have suf:=Wf.suffix f3 f4 (i:=i+1) (by omega)
  rw[f2] at suf
  rcases f4 (i+1) (by omega) (by omega) with hy | hy | hy
  .refine .inl ⟨hy.1,hy.2.1,fun hc => ?_⟩
   rcases hc with hc | hc | hc
   .exact hy.2.2 ((J38 hN hb hAN).1 hc)
   .exact g2 _ (by omega) (Wf.cons hc (f4 (i+1) (by omega) (by omega)) suf)
   .rw[hc] at suf
    exact g2 _ (by omega) suf
  .rw[hy] at suf
   exact absurd suf (g2 _ (by omega))
  .exact absurd ⟨f,f1,hy,fun t ht=>f3 t (by omega),fun t h0 ht=>f4 t h0 (by omega)⟩ (g2 (i+1) (by omega))
 .simp only[hP'] at hw
  refine g2 (j+1) (by omega) (Wf.cons a1 (f4 1 (by omega) (by omega)) (hw.mono fun x _ hx2 => ?_))
  rcases hx2 with hx2 | rfl | rfl
  .exact .inl ⟨hx2.1,hx2.2.1,fun hc=>hx2.2.2 (.inl ((J38 hN hb hAN).2 hc))⟩
  .exact .inl hx
  .exact .inr (.inr rfl)
theorem V71{start:Nat}(hs:start<N):∀(k last:Nat) (p:List Nat) (blk v:Nat),v<N->Z91 aL N (k+1) blk start last v=true->exF aL N start (k+1) last p blk≠[]
 | k,last,p,blk,v,hv,h=>by
  rw[exF]
  cases hf:(aY N).find? (Z91 aL N (k+1) blk start last) with
  | none=>
   have:=List.find?_eq_none.1 hf v (cW.2 hv);exact absurd h this
  | some x=>
   have h1:=List.find?_some hf;have h2:=cW.1 (List.mem_of_find?_eq_some hf)
   cases k with
   | zero=>simp[exF]
   | succ k=>
    obtain⟨y,hy,E⟩:=C74 hN hb hAN hI hs h1;exact V71 hs k x _ _ y hy E
include hA
theorem K68(hL:0<cyV aL N N):4<=cyV aL N N/\∃ s j v,s<N/\j<N/\v<N/\s<j/\A s j/\Z91 aL N (cyV aL N N-2) 0 s j v=true:=by
 obtain⟨i1,i2⟩:=J49 (aL:=aL) (N:=N) N;obtain⟨v0,u0,w0,⟨a7,a5,a8,hc⟩,hd,a2⟩:=i2 hL;generalize aa:cyV aL N N=L at *
 obtain⟨q1,q2,q3⟩:=(G43 hb hAN).1 hc;have hd:0<B75 aL N u0 w0 (D86 aL N v0 u0 w0):=hd;have a2:L=B75 aL N u0 w0 (D86 aL N v0 u0 w0)+2:=a2;rcases D36 hb hAN (within:=D86 aL N v0 u0 w0) (to:=w0) a5 O0 with ⟨g,_⟩ | ⟨_,g1,g2⟩
 .omega
 generalize B75 aL N u0 w0 (D86 aL N v0 u0 w0)=d at *
 obtain⟨f,f1,f2,f3,f4⟩:=g1;have V:∀ {a b:Nat},A a b->b≠a:=fun h e=>hI _ (by rw[e] at h;exact h)
 have a9:2<=d:=by
  refine aI fun h => ?_
  obtain rfl:d=1:=O0;have:=f3 0 O0;rw[f1,f2] at this;exact q3 this
 have cut:∀ i k,i+1<k->k<=d->¬ A (f i) (f k):=fun i k a1 hk ha=>by
  refine g2 (i+1+(d-k)) O0 ⟨fun t=>if t<=i then f t else f (t-(i+1)+k),by simp[f1],?_,fun t ht => ?_,fun t h0 ht => ?_⟩
  .simp only[show ¬ (i+1+(d-k)<=i) by omega,if_false]
   rw[show i+1+(d-k)-(i+1)+k=d by omega];exact f2
  .by_cases e:t<=i
   .by_cases e2:t=i
    .subst e2
     simp only[aD,if_true,show ¬ (t+1<=t) by omega,if_false];rw[show t+1-(t+1)+k=k by omega];exact ha
    .simp only[e,if_true,show t+1<=i by omega]
     exact f3 t O0
   .simp only[e,if_false,show ¬ (t+1<=i) by omega]
    rw[show t+1-(i+1)+k=t-(i+1)+k+1 by omega];exact f3 _ O0
  .by_cases e:t<=i
   .simp only[e,if_true];exact f4 t h0 O0
   .simp only[e,if_false];exact f4 _ O0 O0
 have dis:∀ i k,i<k->k<=d->f i≠f k:=fun i k a1 hk he=>by
  by_cases e:k=d
  .subst e
   exact g2 i a1 ⟨f,f1,by rw[he];exact f2,fun t ht=>f3 t O0,fun t h0 ht=>f4 t h0 O0⟩
  .exact cut i (k+1) O0 O0 (by rw[he];exact f3 k O0)
 have inn:∀ i,0<i->i<d->¬ A v0 (f i)/\f i≠v0:=fun i h0 hi=>by
  rcases (B33 hb hAN).1 (f4 i h0 O0) with h | h | h
  .exact h.2
  .exact absurd (f1.trans h.symm) (dis 0 i h0 O0)
  .exact absurd (h.trans f2.symm) (dis i d hi (aD _))
 obtain⟨c,U⟩:∃ c:Nat->Nat,c=fun t=>if t%L=0 then v0 else f (t%L-1):=⟨_,rfl⟩
 have low:∀ a b,a<b->b<L->c a≠c b/\(A (c a) (c b)<->b=a+1\/(a=0/\b=L-1)):=fun a b ab a4=>by
  have eb:c b=f (b-1):=by rw[U];simp only[bV a4,show b≠0 by omega,if_false]
  have ea:c a=if a=0 then v0 else f (a-1):=by rw[U];simp only[bV (show a<L by omega)]
  rw[eb,ea]
  by_cases e:a=0
  .subst e
   rw[if_pos rfl]
   by_cases e1:b=1
   .subst e1
    rw[show 1-1=0 from rfl,f1];exact⟨(V q1).symm,fun _ => .inl rfl,fun _=>q1⟩
   by_cases e2:b=L-1
   .rw[show b-1=d by omega,f2]
    exact⟨(V q2).symm,fun _ => .inr ⟨rfl,e2⟩,fun _=>q2⟩
   .obtain⟨r1,r2⟩:=inn (b-1) O0 O0
    exact⟨r2.symm,fun h=>absurd h r1,fun h=>O0⟩
  .rw[if_neg e]
   refine⟨dis _ _ O0 O0,fun h => ?_,fun h => ?_⟩
   .refine aI fun hn=>cut (a-1) (b-1) O0 O0 h
   .have:=f3 (a-1) O0
    rwa [show a-1+1=b-1 by omega] at this
 have Z:∀ i,c (i+L)=c i:=fun i=>by rw[U];simp only[Nat.add_mod_right]
 have W:∀ i,c i=c (i%L):=fun i=>by rw[U];simp only[Nat.mod_mod]
 have E:∀ i k,0<k->k<L->c i≠c (i+k)/\(A (c i) (c (i+k))<->k=1\/k=L-1):=fun i k h0 hk=>by
  have ha:=eZ i (show L > 0 by omega);have e:(i+k)%L=if i%L+k<L then i%L+k else i%L+k-L:=by
   rw[Nat.add_mod,bV hk]
   split
   .rename_i h;exact bV h
   .rename_i h
    rw[Nat.mod_eq_sub_mod O0,bV O0]
  rw[W i,W (i+k),e];generalize i%L=a at *
  split
  .obtain⟨r1,r2⟩:=low a (a+k) O0 O0
   exact⟨r1,r2.trans O0⟩
  .obtain⟨r1,r2⟩:=low (a+k-L) a O0 O0
   exact⟨r1.symm,(show A (c a) (c (a+k-L))<->A (c (a+k-L)) (c a) from ⟨hA _ _,hA _ _⟩).trans (r2.trans O0)⟩
 obtain⟨m,hm⟩:=N74 c;have gt:∀ k,0<k->k<L->c m<c (m+k):=fun k h0 hk=>by
  have:=hm (m+k);have:=(E m k h0 hk).1;omega
 have Q:A (c m) (c (m+1)):=(E m 1 O0 O0).2.2 (.inl rfl);have O:A (c (m+1)) (c (m+2)):=(E (m+1) 1 O0 O0).2.2 (.inl rfl);have a3:¬ A (c m) (c (m+2)):=fun h=>by have:=(E m 2 O0 O0).2.1 h;omega
 have hs:=(hAN _ _ Q).1;have hW:∀ x,((Z2 (Q90 (c m)) (W87 aL 0 (c (m+1))) ||| 2^c (m+2)) ||| 2^c m).testBit x=true<->ExW A 0 (c m) (c (m+1)) (c (m+2)) x:=fun x=>U50 hN hb hAN hs
 refine⟨O0,c m,c (m+1),c (m+2),hs,(hAN _ _ Q).2,(hAN _ _ O).2,gt 1 O0 O0,Q,(U45 hN hb hAN hs).2 ⟨⟨O,gt 2 O0 O0,O2⟩,?_⟩⟩;have a6:=gt 2 O0 O0;refine R65 hb hAN (hAN _ _ O).2 O0 ?_ fun j hj hw => ?_
 .simp only[hW]
  refine⟨fun t=>c (m+2+t),rfl,?_,fun t ht=>(E (m+2+t) 1 O0 O0).2.2 (.inl rfl),fun t h0 ht => ?_⟩
  .show c (m+2+(L-2))=c m
   rw[show m+2+(L-2)=m+L by omega];exact Z m
  .show ExW A 0 (c m) (c (m+1)) (c (m+2)) (c (m+2+t))
   by_cases e:t=L-2
   .rw[show m+2+t=m+L by omega];exact .inr (.inr (Z m))
   .have hx:=gt (t+2) O0 O0
    have hy:=E (m+1) (t+1) O0 O0;have hz:=(E (m+1+t) 1 O0 O0).2.2 (.inl rfl);rw[show m+1+t+1=m+2+t by omega] at hz;rw[show m+(t+2)=m+2+t by omega] at hx;rw[show m+1+(t+1)=m+2+t by omega] at hy;refine .inl ⟨hx,by have:=(hAN _ _ hz).2;omega,fun J => ?_⟩;rcases J with J | J | J
    .simp at J
    .have:=hy.2.1 J;omega
    .exact hy.1 J.symm
 .simp only[hW] at hw
  have a0:Wf A (fun x=>(D86 aL N (c (m+1)) (c (m+2)) (c m)).testBit x=true) j (c (m+2)) (c m):=hw.mono fun x ⟨y,hy⟩ hx=>(B33 hb hAN).2 (by
   rcases hx with hx | hx | hx
   .exact .inl ⟨(hAN _ _ hy).2,fun h=>hx.2.2 (.inr (.inl h)),fun h=>hx.2.2 (.inr (.inr h))⟩
   .exact .inr (.inl hx)
   .exact .inr (.inr hx))
  rcases D36 hb hAN (within:=D86 aL N (c (m+1)) (c (m+2)) (c m)) (to:=c m) (hAN _ _ O).2 O0 with ⟨_,h⟩ | ⟨h,_,h2⟩
  .exact h j a0
  .have h3:=(i1 (c (m+1)) (c (m+2)) (c m) ⟨(hAN _ _ O).1,(hAN _ _ O).2,a6,(G43 hb hAN).2 ⟨O,hA _ _ Q,fun g=>a3 (hA _ _ g)⟩⟩ h).2
   have h3:L<=B75 aL N (c (m+2)) (c m) (D86 aL N (c (m+1)) (c (m+2)) (c m))+2:=h3;exact h2 j O0 a0
theorem K66{L s j:Nat}(E:s<j)(hn:nbB aL s j=true)(he:exF aL N s (L-2) j [s,j] 0≠[]):∀ w,j<w->scW aL N L s w≠[]
 | 0,h=>O0
 | w+1,h=>by
  rw[scW]
  by_cases e:scW aL N L s w=[]
  .have:j=w:=aI fun g=>K66 E hn he w O0 e
   subst this;rw[if_pos ⟨e,E,hn⟩];exact he
  .rw[if_neg (fun g=>e g.1)];exact e
theorem B66{L s:Nat}(h:scW aL N L s N≠[]):∀ v,s<v->scV aL N L v≠[]
 | 0,g=>O0
 | v+1,g=>by
  rw[scV]
  by_cases e:scV aL N L v=[]
  .have:s=v:=aI fun g2=>B66 h v O0 e
   subst this;rw[if_pos e];exact h
  .rw[if_neg e];exact e
theorem Q74:scF aL N=[]<->Chd A:=by
 rw[<- E73 hb hAN hA];unfold scF
 by_cases h0:cyV aL N N=0
 .rw[if_pos h0];exact⟨fun _=>h0,fun _=>rfl⟩
 .rw[if_neg h0]
  refine⟨fun h => ?_,fun h=>absurd h h0⟩;obtain⟨h4,s,j,v,hs,hj,hv,E,ha,hx⟩:=K68 hN hb hAN hA hI O0;refine absurd h (B66 hN hb hAN hA hI (K66 hN hb hAN hA hI E ((hb _ _).2 ha) ?_ N hj) N hs);obtain⟨k,hk⟩:∃ k,cyV aL N N-2=k+1:=⟨cyV aL N N-3,O0⟩
  rw[hk] at hx ⊢;exact V71 hN hb hAN hI hs k j _ _ v hv hx
end
end
end Go.Clo
namespace Go.Proofs.YtoiioigihocgbaaGreatDoor
open Go.Clo
section
variable {es l:List Nat}
theorem M43{a b:Nat}:adj es a b=true<->N10 es a b:=by
 unfold adj N10;simp only[aG,decide_eq_true_eq,dY]
theorem K58{es:List Nat}{s:Nat}:R10 es s=true<->∃ e ∈ es,∀ w,s.testBit w=true->e.testBit w=true:=by
 unfold R10;rw[dY]
 constructor
 .rintro⟨e,h1,h2⟩;exact⟨e,h1,M34.1 (of_decide_eq_true h2)⟩
 .rintro⟨e,h1,h2⟩;exact⟨e,h1,decide_eq_true (M34.2 h2)⟩
section
variable {es:List Nat} {N f:Nat} (hN:N<=6) (hsm:∀ e ∈ es,e<2^N) (hle:es.length<=8) (hcov:∀ w,w<N->∃ e ∈ es,e.testBit w=true) (hf:f<=N)
include hN hsm hle hcov hf
end
end
theorem R57{aL:List Nat}{N inn f:Nat}:∀ i,(J4 aL N inn f i).1≠0->∃ x,x<i/\(J4 aL N inn f i).2 x≠0
 | 0,h=>absurd rfl h
 | i+1,h=>by
  cases hr:shG aL inn (N14 aL f i) (J4 aL N inn f i).1 N 0 (aL.getD i 0 &&& inn) 2 with
  | none=>
   have e:J4 aL N inn f (i+1)=J4 aL N inn f i:=by rw[J4,hr];rfl
   rw[e] at h ⊢;obtain⟨x,h1,h2⟩:=R57 i h;exact⟨x,O0,h2⟩
  | some r=>
   obtain⟨st,last⟩:=r;have e:J4 aL N inn f (i+1)=(st,fun x=>if x=i then last else if (J4 aL N inn f i).1=0\/st<(J4 aL N inn f i).1 then 0 else(J4 aL N inn f i).2 x):=by rw[J4,hr];rfl
   rw[e];obtain⟨_,_,h4,_⟩:=K15 (b0:=aL.getD i 0 &&& inn) N 0 _ 2 (fun w hw=>hw) (aD _) hr;exact⟨i,O0,by simp_all⟩
theorem Z60{aL:List Nat}{N inn f:Nat}:∀ i,(J4 aL N inn f i).1=0->∀ x,x<i->shG aL inn (N14 aL f x) 0 N 0 (aL.getD x 0 &&& inn) 2=none
 | 0,_,x,hx=>O0
 | i+1,h,x,hx=>by
  cases hr:shG aL inn (N14 aL f i) (J4 aL N inn f i).1 N 0 (aL.getD i 0 &&& inn) 2 with
  | none=>
   have e:J4 aL N inn f (i+1)=J4 aL N inn f i:=by rw[J4,hr];rfl
   rw[e] at h;rw[h] at hr
   by_cases E:x=i
   .subst E;exact hr
   .exact Z60 i h x O0
  | some r=>
   obtain⟨st,last⟩:=r;have e:J4 aL N inn f (i+1)=(st,fun x=>if x=i then last else if (J4 aL N inn f i).1=0\/st<(J4 aL N inn f i).1 then 0 else(J4 aL N inn f i).2 x):=by rw[J4,hr];rfl
   rw[e] at h;obtain⟨h2,_⟩:=K15 (b0:=aL.getD i 0 &&& inn) N 0 _ 2 (fun w hw=>hw) (aD _) hr;omega
def Q20(N inn E:Nat):Nat:=(aY N).countP fun w=>inn.testBit w && !E.testBit w
theorem R64{N inn E b w:Nat}(hw:w<N)(hb:b.testBit w=true)(hi:inn.testBit w=true)(hs:E.testBit w=false):Q20 N inn (E ||| b)<Q20 N inn E:=by
 unfold Q20;have key:∀ l:List Nat,l.countP (fun w=>inn.testBit w && !(E ||| b).testBit w)<=l.countP fun w=>inn.testBit w && !E.testBit w:=fun l=>by
  refine List.countP_mono_left fun x _ hx => ?_
  simp_all
 obtain⟨s,t,e⟩:=List.append_of_mem (cW.2 hw)
 grind
theorem K49{aL:List Nat}{N inn far:Nat}(hi:inn<2^N)(hN:N<=32)(U:∀ u,aL.getD u 0<2^N):∀(k E b st:Nat),shG aL inn far 0 k E b st=none->(∀ w,b.testBit w=true->inn.testBit w=true/\E.testBit w=false) ->
  (∀ u,E.testBit u=true->∀ w,(aL.getD u 0).testBit w=true->(inn.testBit w=true->E.testBit w=true\/b.testBit w=true)/\far.testBit w=false)->Q20 N inn E+1<=k ->
  ∃ S:Nat->Prop,(∀ w,E.testBit w=true\/b.testBit w=true->S w)/\∀ u,S u->∀ w,(aL.getD u 0).testBit w=true->(inn.testBit w=true->S w)/\far.testBit w=false
 | 0,E,b,st,_,_,_,hk=>O0
 | k+1,E,b,st,h,hb,hc,hk=>by
  unfold shG at h
  by_cases h0:b=0
  .refine⟨fun w=>E.testBit w=true,fun w hw => ?_,fun u hu w hw => ?_⟩
   .simp_all
   grind
  .rw[if_neg (by simp[h0])] at h
   split at h
   .cases h
   .rename_i J
    have J:Q4 aL b 32 &&& far=0:=aI J;obtain⟨w0,O⟩:=B14 h0;obtain⟨i0,s0⟩:=hb w0 O;have V:=R64 (R7 hi i0) O i0 s0;refine(fun g => ?_) (K49 hi hN U k (E ||| b) _ _ h (fun w hw => ?_) (fun u hu w hw => ?_) O0)
    .obtain⟨S,h1,h2⟩:=g
     refine⟨S,fun w hw=>h1 w (.inl ?_),h2⟩
     simp_all
    .grind[N1]
    .rw[aV,cO] at hu
     rcases hu with hu | hu
     .grind
     .have Q:u<32:=aO (R7 hi (hb u hu).1) hN
      have hn:(Q4 aL b 32).testBit w=true:=Y7.2 ⟨u,Q,hu,hw⟩
      constructor
      .grind[N1]
      .have:=congrArg (·.testBit w) J
       grind
section
variable {es:List Nat} {N f:Nat} (hN:N<=6) (hf:f<=N)
include hN hf
theorem B17(u w:Nat):((B2 es N).getD u 0).testBit w=true<->u<N/\w<N/\N10 es u w:=by
 by_cases hu:u<N
 .rw[aP,V39 es O0 hu,Option.getD_some,E26,aG,decide_eq_true_eq,M43]
  simp_all
 grind[B2,aT,N9]
theorem J69(u:Nat):(B2 es N).getD u 0<2^N:=Nat.lt_pow_two_of_testBit _ fun w hw=>bN.2 fun h=>by
 grind[B17]
theorem X38(w:Nat):(K10 N f).testBit w=true<->f<=w/\w<N:=by
 grind[K10,N1,dC]
theorem M73:K10 N f<2^N:=Z6 (by grind)
theorem V57{x:Nat}(w:Nat):(N14 (B2 es N) f x).testBit w=true<->w<f/\w≠x/\¬ (x<N/\N10 es x w):=by
 unfold N14;rw[N1,N1,dC,aR,aG,aG,decide_eq_true_eq,cJ,cJ,<- Bool.not_eq_true,B17 hN hf,decide_eq_false_iff_not]
 grind
theorem C61{x:Nat}(hx:x<N):∀(k u:Nat),(lev (B2 es N) (K10 N f) ((B2 es N).getD x 0 &&& K10 N f) k).testBit u=true->(f<=u/\u<N)/\V9 (N10 es) (fun v=>f<=v/\v<N) x u
 | 0,u,h=>by
  rw[lev,bI,aG,B17 hN hf,X38 hN hf] at h;exact⟨h.2,.one h.1.2.2⟩
 | k+1,u,h=>by
  rw[lev,bI,aG,X38 hN hf] at h;obtain⟨v,_,hv,E⟩:=Y7.1 h.1;obtain⟨h1,h2⟩:=C61 hx k v hv;exact⟨h.2,h2.trans h1 (.one ((B17 hN hf v u).1 E).2.2)⟩
theorem W67:(K24 (B2 es N) N f).isSome=true<->U25 (N10 es) N f []:=by
 rw[V45]
 constructor
 .intro h
  unfold K24 at h
  split at h
  .cases h
  .rename_i x hx
   have hxf:x<f:=by simpa using List.mem_of_find?_eq_some hx
   have hne:=List.find?_some hx
   have hne:(J4 (B2 es N) N (K10 N f) f f).2 x≠0:=by simpa using hne
   obtain⟨_,lim,hs⟩:=E47 f x hne
   obtain⟨_,_,_,h4,u,z,h5,h6,h7⟩:=K15 (b0:=(B2 es N).getD x 0 &&& K10 N f) N 0 _ 2 (fun w hw=>hw) (Nat.le_refl _) hs
   obtain⟨h8,h9⟩:=C61 hN hf (show x<N by omega) _ u h5
   obtain⟨_,hzN,huz⟩:=(B17 hN hf u z).1 h7
   obtain⟨hzf,hzx,hna⟩:=(V57 hN hf z).1 (h4 z h6)
   have hna:¬ N10 es x z:=fun g=>hna ⟨by omega,g⟩
   obtain⟨l,hl,hch⟩:=(h9.trans h8 (.one huz)).chordless (fun e=>hzx e.symm)
   have hlen:=hl.len
   have hlen3:3<=l.length:=by
    rcases Nat.lt_or_ge 2 l.length with h | h
    .exact h
    .have h2:l.length=2:=by omega
     have e1:=hl.first
     have e2:=hl.last 1 (by omega)
     exact absurd (hl.step 0 x z e1 e2) hna
   refine⟨l,hlen3,hch,fun i y hy => ?_,fun i y hy => ?_⟩
   .have hil:=(List.getElem?_eq_some_iff.1 hy).1
    rcases Nat.eq_zero_or_pos i with rfl | hi
    .rw[hl.first] at hy;cases hy;omega
    .by_cases hi2:i+1=l.length
     .rw[hl.last i hi2] at hy;cases hy;omega
     .exact (hl.inn i y hy hi (by omega)).2
   .have hil:=(List.getElem?_eq_some_iff.1 hy).1
    constructor
    .intro hyf
     refine Classical.byContradiction fun hn => ?_
     have:=(hl.inn i y hy (by omega) (by omega)).1
     omega
    .rintro (rfl | hi2)
     .rw[hl.first] at hy;cases hy;exact hxf
     .rw[hl.last i hi2] at hy;cases hy;exact hzf
 .rintro⟨l,hl⟩
  have hlen:=hl.len
  obtain⟨x,hx⟩:∃ x,l[0]? = some x:=⟨_,List.getElem?_eq_getElem (by omega)⟩
  obtain⟨z,hz⟩:∃ z,l[l.length-1]? = some z:=⟨_,List.getElem?_eq_getElem (by omega)⟩
  have hxf:=(hl.ends 0 x hx).2 (.inl rfl)
  have hzf:=(hl.ends _ z hz).2 (.inr (by omega))
  obtain⟨hxz,hna⟩:=hl.ch 0 _ x z (by omega) hx hz
  have hna:¬ N10 es x z:=fun g=>by have:=hna.1 g;omega
  have hinn:∀ (i y:Nat),l[i]? = some y->0<i->i+1<l.length->(K10 N f).testBit y=true:=fun i y hy h0 h1=>by
   rw[X38 hN hf]
   have:=hl.lt i y hy
   refine⟨?_,this⟩
   have:=(hl.ends i y hy)
   omega
  have hadj:∀ (i y w:Nat),l[i]? = some y->l[i+1]? = some w->((B2 es N).getD y 0).testBit w=true:=fun i y w hy hw=>by
   rw[B17 hN hf]
   exact⟨hl.lt i y hy,hl.lt _ w hw,(hl.ch i (i+1) y w (by omega) hy hw).2.2 rfl⟩
  have h1:(J4 (B2 es N) N (K10 N f) f f).1≠0:=by
   intro h0
   have hnone:=Z60 f h0 x hxf
   have hun:Q20 N (K10 N f) 0+1<=N:=by
    have h1:Q20 N (K10 N f) 0<=((List.range N).filter fun w=>decide (w≠x)).length:=by
     unfold Q20
     rw[<- List.countP_eq_length_filter]
     refine List.countP_mono_left fun w _ hw => ?_
     simp at hw
     have:=((X38 hN hf w).1 hw).1
     simp;omega
    have h2:((List.range N).filter fun w=>decide (w≠x)).length<(List.range N).length:=by
     rw[<- List.countP_eq_length_filter]
     rcases Nat.lt_or_ge ((List.range N).countP fun w=>decide (w≠x)) (List.range N).length with h | h
     .exact h
     .have:=List.countP_eq_length.1 (Nat.le_antisymm List.countP_le_length h) x (by simp;omega)
      simp at this
    rw[List.length_range] at h2
    omega
   obtain⟨S,s1,s2⟩:=K49 (M73 hN hf) (by omega) (J69 hN hf) N 0 _ 2 hnone (fun w hw=>by
    rw[Nat.testBit_and,Bool.and_eq_true] at hw
    exact⟨hw.2,by simp⟩) (fun u hu=>by simp at hu) hun
   have hS:∀ (i y:Nat),l[i]? = some y->0<i->i+1<l.length->S y:=by
    intro i
    induction i with
    | zero=>intro y _ h0;omega
    | succ i ih=>
     intro y hy _ hi
     obtain⟨u,hu⟩:∃ u,l[i]? = some u:=⟨_,List.getElem?_eq_getElem (by omega)⟩
     have hin:=hinn (i+1) y hy (by omega) hi
     rcases Nat.eq_zero_or_pos i with rfl | h0
     .rw[hx] at hu;cases hu
      refine s1 y (.inr ?_)
      rw[Nat.testBit_and,hadj 0 x y hx hy,hin];rfl
     .exact (s2 u (ih u hu h0 (by omega)) y (hadj i u y hu hy)).1 hin
   obtain⟨u,hu⟩:∃ u,l[l.length-2]? = some u:=⟨_,List.getElem?_eq_getElem (by omega)⟩
   have hSu:=hS _ u hu (by omega) (by omega)
   have hz':l[l.length-2+1]? = some z:=by rw[show l.length-2+1=l.length-1 by omega];exact hz
   have:=(s2 u hSu z (hadj _ u z hu hz')).2
   rw[Bool.eq_false_iff] at this
   refine this ((V57 hN hf z).2 ⟨hzf,fun e=>hxz e.symm,fun g=>hna g.2⟩)
  obtain⟨y,hy1,hy2⟩:=R57 f h1
  unfold K24
  split
  .rename_i hno
   rw[List.find?_eq_none] at hno
   exact absurd (by simpa using hy2) (hno y (by simpa using hy1))
  .rfl
end
end Go.Proofs.YtoiioigihocgbaaGreatDoor
namespace Go.Clo
theorem N28{a b:Nat}:Z2 a b=0<->∀ q,a.testBit q=true->b.testBit q=true:=by
 constructor
 .intro h q hq
  have:=congrArg (·.testBit q) h
  grind[N1]
 .intro h
  apply bZ
  grind[N1]
theorem J43{cl rest:Nat}:∀(es:List Nat) (s:Nat × Bool),((∃ e ∈ es,Z2 cl e=0)/\(∃ e ∈ es,Z2 cl e=0/\es.foldl (X78 cl rest) s=(Z2 rest e,true))\/es.foldl (X78 cl rest) s=s)/\(s.2=false->(∃ e ∈ es,Z2 cl e=0)->(es.foldl (X78 cl rest) s).2=true)
 | [],s=>⟨.inr rfl,fun _ ⟨e,h,_⟩=>by simp at h⟩
 | x :: es,s=>by
  rw[dF];obtain⟨h1,h2⟩:=J43 es (X78 cl rest s x)
  by_cases hc:Z2 cl x=0/\(s.2=false\/E9 (Z2 rest x)<E9 s.1)
  .have e:X78 cl rest s x=(Z2 rest x,true):=if_pos hc
   rw[e] at h1 h2 ⊢;have hx:∃ e ∈ x :: es,Z2 cl e=0:=⟨x,O2,hc.1⟩
   rcases h1 with ⟨_,y,y1,y2,y3⟩ | h1
   .refine⟨.inl ⟨hx,y,by simp[y1],y2,y3⟩,fun _ _=>by rw[y3]⟩
   simp_all
  .have e:X78 cl rest s x=s:=if_neg hc
   rw[e] at h1 h2 ⊢;refine⟨?_,fun h0 ⟨y,y1,y2⟩ => ?_⟩
   .grind
   grind
theorem R49{es:List Nat}{cl rest:Nat}:(C75 es cl rest).2=false<->¬ ∃ e ∈ es,Z2 cl e=0:=by
 grind[J43,C75,absurd]
theorem Z53{es:List Nat}{cl rest:Nat}(h:(C75 es cl rest).2=true):∃ e ∈ es,Z2 cl e=0/\(C75 es cl rest).1=Z2 rest e:=by
 grind[J43,C75]
theorem R48{p q:Nat->Bool}{t:Nat}:∀ {T:List Nat},(∀ x,p x=true->q x=true)->t ∈ T->q t=true->p t=false->T.countP p+1<=T.countP q
 | [],_,h,_,_=>by simp at h
 | x :: T,hpq,ht,h1,h2=>by
  rw[List.countP_cons,List.countP_cons];have hm:=List.countP_mono_left (l:=T) (p:=p) (q:=q) fun y _=>hpq y
  by_cases e:t=x
  .simp_all
  .have:=R48 (T:=T) hpq ((aU.1 ht).resolve_left e) h1 h2
   grind
theorem Y68{cl rest:Nat}{T:List Nat}:∀(es:List Nat) (s:Nat × Nat),(∀ e ∈ es,Z2 cl e=0->∃ t ∈ T,rest.testBit t=true/\e.testBit t=false)->s.1<=T.countP (fun t=>s.2.testBit t)->(es.foldl (X74 cl rest) s).1<=T.countP (fun t=>(es.foldl (X74 cl rest) s).2.testBit t)
 | [],s,_,h=>h
 | x :: es,s,he,h=>by
  rw[dF];refine Y68 es _ (fun e h1=>he e (by simp[h1])) ?_;unfold X74
  split
  .rename_i hc
   obtain⟨t,t1,t2,t3⟩:=he x O2 hc.1;have hs:s.2.testBit t=false:=by
    have:=congrArg (·.testBit t) hc.2
    grind[N1]
   have:=R48 (T:=T) (p:=fun t=>s.2.testBit t) (q:=fun t=>(s.2 ||| Z2 rest x).testBit t) (fun y hy=>by rw[aV,hy];rfl) t1 (by rw[aV,N1,t2,t3];simp) hs
   grind
  .exact h
theorem X46{rest out t:Nat}:∀ k,(N71 rest out k).testBit t=true<->rest.testBit t=true/\¬ (out.testBit t=true/\t<k)
 | 0=>by simp[N71]
 | k+1=>by
  have ih:=X46 (rest:=rest) (out:=out) (t:=t) k;rw[N71]
  grind[N1]
def Unc(es:List Nat)(cl:Nat)(T:List Nat):Prop:=¬ ∃ e ∈ es,Z2 cl e=0/\∀ t ∈ T,e.testBit t=true
section
variable {A:Nat->Nat->Prop} {es aL:List Nat} {N:Nat} (hb:∀ u w,(aL.getD u 0).testBit w=true<->A u w)
include hb
theorem E38:∀(c cl rest:Nat),W51 es aL N c cl rest=true->∃ T:List Nat,T.length<=c/\(∀ t ∈ T,rest.testBit t=true)/\(∀ a ∈ T,∀ b ∈ T,a≠b->A a b\/A b a)/\Unc es cl T
 | 0,cl,rest,h=>by
  rw[W51,cJ] at h;exact⟨[],aD _,O2,O2,fun⟨e,h1,h2,_⟩=>R49.1 h ⟨e,h1,h2⟩⟩
 | c+1,cl,rest,h=>by
  rw[W51,cO,cJ] at h
  by_cases E:(C75 es cl rest).2=false
  .exact⟨[],O2,O2,O2,fun⟨e,h1,h2,_⟩=>R49.1 E ⟨e,h1,h2⟩⟩
  have h:=h.resolve_left E;obtain⟨e0,e1,e2,e3⟩:=Z53 (by simpa using E);rw[aG,dY] at h;obtain⟨_,v,hv,h⟩:=h;rw[aG,e3] at h;obtain⟨h1,h2⟩:=h;obtain⟨T,t1,t2,t3,t4⟩:=E38 c _ _ h2;rw[N1,aG] at h1;have J:∀ t ∈ T,rest.testBit t=true/\A v t:=fun t ht=>by
   grind[X46]
  refine⟨v :: T,by simp;omega,fun t ht => ?_,fun a ha b O Q => ?_,fun⟨e,g1,g2,g3⟩=>t4 ⟨e,g1,?_,fun t ht=>g3 t (by simp[ht])⟩⟩
  .grind
  .grind
  grind[N28]
theorem X50{p:Nat->Prop}:∀ {T:List Nat},(∃ t ∈ T,p t)->∃ v ∈ T,p v/\∀ t ∈ T,p t->v<=t
 | [],⟨t,h,_⟩=>by simp at h
 | x :: T,h=>by
  by_cases hT:∃ t ∈ T,p t
  .obtain⟨v,v1,v2,v3⟩:=X50 hT
   grind
  simp_all
theorem E60{cl v:Nat}{T:List Nat}(hv:v ∈ T)(h:Unc es cl T):Unc es (cl ||| 2^v) (T.filter fun t=>decide (t≠v)):=fun⟨e,h1,h2,h3⟩=>h ⟨e,h1,N28.2 fun q hq=>N28.1 h2 q (by rw[aV,hq];rfl),fun t ht=>by
 grind[N28]⟩
theorem X30:∀(c cl rest:Nat)(T:List Nat),rest<2^N->T.length<=c->(∀ t ∈ T,rest.testBit t=true)->(∀ a ∈ T,∀ b ∈ T,a≠b->A a b)->Unc es cl T->W51 es aL N c cl rest=true
 | 0,cl,rest,T,_,hl,_,_,hu=>by
  obtain rfl:T=[]:=dT.1 O0;rw[W51,cJ];exact R49.2 fun⟨e,h1,h2⟩=>hu ⟨e,h1,h2,O2⟩
 | c+1,cl,rest,T,hr,hl,hT,hp,hu=>by
  rw[W51,cO,cJ]
  by_cases E:(C75 es cl rest).2=false
  .exact .inl E
  right;obtain⟨e0,e1,e2,e3⟩:=Z53 (by simpa using E);have O:∀ e ∈ es,Z2 cl e=0->∃ t ∈ T,rest.testBit t=true/\e.testBit t=false:=fun e he h0=>by
   refine aI fun hn=>hu ⟨e,he,h0,fun t ht => ?_⟩
   simp_all
  have Q:∀ t,(C75 es cl rest).1.testBit t=true<->rest.testBit t=true/\e0.testBit t=false:=fun t=>by
   grind[N1]
  obtain⟨v,v1,v2,v3⟩:=X50 hb (p:=fun t=>(C75 es cl rest).1.testBit t=true) (T:=T) (by
   simp_all)
  have U:(T.filter fun t=>decide (t≠v)).length<T.length:=fG.2 ⟨v,v1,O2⟩;have hd:(C82 es cl rest).1<=c+1:=by
   have:=Y68 (cl:=cl) (rest:=rest) (T:=T) es (0,0) O (Nat.zero_le _);exact bK this (bK List.countP_le_length hl)
  rw[aG,aG,dY,decide_eq_true_eq,decide_eq_true_eq];refine⟨⟨fun h=>(by grind),hd⟩,v,cW.2 (R7 hr (hT v v1)),?_⟩;rw[aG];refine⟨v2,X30 c _ _ (T.filter fun t=>decide (t≠v)) (W37 (D85 hr _)) O0 (fun t ht => ?_) (fun a ha b J=>hp a (dA.1 ha).1 b (dA.1 J).1) (E60 hb v1 hu)⟩
  grind[X46]
end
theorem Q52{P:Nat->Bool}:∀(k L:Nat),(∀ x,P x=false)->B86 P k L=L+k
 | 0,L,_=>rfl
 | k+1,L,h=>by rw[B86,if_neg (by rw[h];simp),Q52 k (L+1) h];omega
theorem E51{P:Nat->Bool}:∀(k L c:Nat),L<=c->c<L+k->P c=true->B86 P k L<=c/\P (B86 P k L)=true
 | 0,L,c,h1,h2,_=>O0
 | k+1,L,c,h1,h2,h=>by
  rw[B86]
  split
  .simp_all
  .rename_i h3
   by_cases e:L=c
   .subst e;exact absurd h h3
   .exact E51 k (L+1) c O0 O0 h
section
variable {es aL:List Nat} {N:Nat} (hb:∀ u w,(aL.getD u 0).testBit w=true<->N10 es u w) (hsm:∀ e ∈ es,e<2^N) (hor:∀ v,(Z7 es).testBit v=true<->Q21 es v)
include hb hsm hor
theorem B38{L v:Nat}:∀ k,(W76 es aL N L (Z7 es) k).1=[]->(W76 es aL N L (Z7 es) k).2.1=0/\∀ x,(W76 es aL N L (Z7 es) k).2.2.testBit x=true<->(Z7 es).testBit x=true/\k<=x
 | 0,_=>⟨rfl,fun x=>by simp[W76]⟩
 | k+1,h=>by
  rw[W76] at h ⊢;unfold W99 at h ⊢
  split at h
  .rename_i h1
   rw[if_pos h1]
   split at h
   .simp at h
   .rename_i h2
    rw[if_neg h2];obtain⟨i1,i2⟩:=B38 (v:=v) k h
    grind[Z2]
  .rename_i h1
   rw[if_neg h1];obtain⟨i1,i2⟩:=B38 (v:=v) k h
   grind
theorem C45{L:Nat}:∀ k d,(W76 es aL N L (Z7 es) k).1≠[]->(W76 es aL N L (Z7 es) (k+d)).1≠[]
 | k,0,h=>h
 | k,d+1,h=>by
  have ih:=C45 k d h;show(W76 es aL N L (Z7 es) (k+d+1)).1≠[];rw[W76];unfold W99
  split
  .split
   .simp
   .exact ih
  .exact ih
theorem K74:D83 es aL N N=[]<->Cf es:=by
 have hlk:Z7 es<2^N:=Nat.lt_pow_two_of_testBit _ fun w hw=>Bool.eq_false_iff.2 fun h=>by
  obtain⟨e,h1,h2⟩:=(hor w).1 h
  have:=R7 (hsm e h1) h2
  omega
 have ne_nil:∀ T:List Nat,Z7 es≠0->Unc es 0 T->T≠[]:=fun T h0 hu hT=>by
  subst hT
  cases he:es with
  | nil=>
   refine h0 (Nat.eq_of_testBit_eq fun i => ?_)
   rw[Nat.zero_testBit]
   refine Bool.eq_false_iff.2 fun h => ?_
   obtain⟨e,h1,_⟩:=(hor i).1 h
   rw[he] at h1;simp at h1
  | cons x r=>exact hu ⟨x,by rw[he];simp,N28.2 (fun q hq=>by rw[Nat.zero_testBit] at hq;cases hq),by simp⟩
 constructor
 .intro hnil Q hx hc ha
  refine Classical.byContradiction fun hn => ?_
  have hQN:∀ q,Q q->q<N:=fun q hq=>by
   obtain⟨e,h1,h2⟩:=hc q hq
   exact R7 (hsm e h1) h2
  obtain⟨T,hT⟩:∃ T:List Nat,T=(List.range N).filter fun q=>@decide (Q q) (Classical.propDecidable _):=⟨_,rfl⟩
  have hm:∀ q,q ∈ T<->Q q:=fun q=>by
   rw[hT,List.mem_filter,@decide_eq_true_eq _ (Classical.propDecidable _),List.mem_range]
   exact⟨fun h=>h.2,fun h=>⟨hQN q h,h⟩⟩
  have hl:T.length<=N:=by rw[hT];exact Nat.le_trans (List.length_filter_le _ _) (by simp)
  clear hT
  have hu:∀ cl,cl=0->Unc es cl T:=fun cl hcl ⟨e,h1,_,h3⟩=>hn ⟨e,h1,fun q hq=>h3 q ((hm q).2 hq)⟩
  have h3:3<=T.length:=by
   refine Classical.byContradiction fun h3 => ?_
   match T,hm,h3 with
   | [],hm,_=>obtain⟨q,hq⟩:=hx;exact absurd ((hm q).2 hq) (by simp)
   | [a],hm,_=>
    obtain⟨e,h1,h2⟩:=hc a ((hm a).1 (by simp))
    exact hn ⟨e,h1,fun q hq=>by have:=(hm q).2 hq;simp at this;rw[this];exact h2⟩
   | [a,b],hm,_=>
    by_cases e:a=b
    .obtain⟨e',h1,h2⟩:=hc a ((hm a).1 (by simp))
     exact hn ⟨e',h1,fun q hq=>by have:=(hm q).2 hq;simp[<- e] at this;rw[this];exact h2⟩
    .obtain⟨_,e',h1,h2,h2'⟩:=ha a b ((hm a).1 (by simp)) ((hm b).1 (by simp)) e
     exact hn ⟨e',h1,fun q hq=>by
      have:=(hm q).2 hq
      simp at this
      rcases this with rfl | rfl
      .exact h2
      .exact h2'⟩
   | _ :: _ :: _ :: _,_,h3=>simp at h3
  have hposs:W51 es aL N T.length 0 (Z7 es)=true:=X30 hb T.length 0 (Z7 es) T hlk (Nat.le_refl _) (fun t ht=>(hor t).2 (hc t ((hm t).1 ht))) (fun a ha' b hb'=>ha a b ((hm a).1 ha') ((hm b).1 hb')) (hu 0 rfl)
  obtain⟨k1,k2⟩:=E51 (P:=fun L=>W51 es aL N L 0 (Z7 es)) (N-2) 3 T.length h3 (by omega) hposs
  have h0:Z7 es≠0:=fun h=>by
   obtain⟨q,hq⟩:=hx
   have:=(hor q).2 (hc q hq)
   rw[h,Nat.zero_testBit] at this;cases this
  unfold D83 at hnil
  rw[if_neg (fun h=>by rcases h with h | h<;>omega)] at hnil
  generalize B86 (fun L=>W51 es aL N L 0 (Z7 es)) (N-2) 3=L at *
  obtain⟨T0,t1,t2,t3,t4⟩:=E38 hb L 0 (Z7 es) k2
  obtain⟨v,v1,_,v3⟩:=X50 hb (p:=fun _=>True) (T:=T0) (by
   cases hT0:T0 with
   | nil=>exact absurd hT0 (ne_nil T0 h0 t4)
   | cons x r=>exact⟨x,by simp,trivial⟩)
  have hvN:=R7 hlk (t2 v v1)
  have hTl:(T0.filter fun t=>decide (t≠v)).length<T0.length:=List.length_filter_lt_length_iff_exists.2 ⟨v,v1,by simp⟩
  have hstep:(W76 es aL N L (Z7 es) (v+1)).1≠[]:=by
   by_cases he:(W76 es aL N L (Z7 es) v).1=[]
   .obtain⟨i1,i2⟩:=B38 hb hsm hor (v:=v) v he
    rw[W76]
    unfold W99
    rw[if_pos ((i2 v).2 ⟨t2 v v1,Nat.le_refl _⟩),if_pos]
    .simp
    rw[he,i1]
    refine⟨by simp;omega,X30 hb _ _ _ (T0.filter fun t=>decide (t≠v)) (W37 (Z6 ?_)) (by simp only[List.length_nil];omega) (fun t ht => ?_) (fun a ha' b hb' hne => ?_) (E60 hb v1 t4)⟩
    .exact Nat.lt_pow_two_of_testBit _ fun w hw=>Bool.eq_false_iff.2 fun h=>by
      have:=R7 hlk ((i2 w).1 h).1
      omega
    .obtain⟨a1,a2⟩:=List.mem_filter.1 ht
     have a2:t≠v:=of_decide_eq_true a2
     rw[Nat.testBit_and,Bool.and_eq_true,hb,N1,Bool.and_eq_true,i2,Nat.testBit_two_pow,Bool.not_eq_true',decide_eq_false_iff_not]
     refine⟨⟨⟨t2 t a1,v3 t a1 trivial⟩,fun e=>a2 e.symm⟩,?_⟩
     rcases t3 v v1 t a1 (Ne.symm a2) with g | g
     .exact g
     .exact g.symm
    .rcases t3 a (List.mem_filter.1 ha').1 b (List.mem_filter.1 hb').1 hne with g | g
     .exact g
     .exact g.symm
   .exact C45 hb hsm hor v 1 he
  have:=C45 hb hsm hor (v+1) (N-(v+1)) hstep
  rw[show v+1+(N-(v+1))=N by omega] at this
  exact this hnil
 .intro hC
  unfold D83
  by_cases h0:Z7 es=0
  .rw[if_pos (.inl h0)]
  rw[if_pos]
  right
  rw[Q52 (P:=fun L=>W51 es aL N L 0 (Z7 es)) (N-2) 3 fun L=>Bool.eq_false_iff.2 fun hp => ?_]
  .omega
  obtain⟨T,t1,t2,t3,t4⟩:=E38 hb L 0 (Z7 es) hp
  have hne:=ne_nil T h0 t4
  obtain⟨e,h1,h2⟩:=hC (fun q=>q ∈ T) (by
   cases hT:T with
   | nil=>exact absurd hT hne
   | cons x r=>exact⟨x,by simp⟩) (fun q hq=>(hor q).1 (t2 q hq)) (fun a b ha hb' hab=>by
   rcases t3 a ha b hb' hab with g | g
   .exact g
   .exact g.symm)
  exact t4 ⟨e,h1,N28.2 (fun q hq=>by rw[Nat.zero_testBit] at hq;cases hq),h2⟩
end
theorem R68{cy cq:List Nat}:X90 cy cq=[]<->cy=[]/\cq=[]:=by
 grind[X90,absurd]
end Go.Clo
namespace Go.Proofs.YtoiioigihocgbaaGreatDoor
open Go.Clo
theorem J73{es:List Nat}{N:Nat}(hN:N<=6)(hsm:∀ e ∈ es,e<2^N)(hor:∀ v,(Z7 es).testBit v=true<->Q21 es v):Z74 es (B2 es N) N=[]<->PE es:=by
 have E:∀ u w,N10 es u w->u<N/\w<N:=fun u w h=>by
  obtain⟨_,e,h1,h2,h3⟩:=h;exact⟨R7 (hsm e h1) h2,R7 (hsm e h1) h3⟩
 have hb:∀ u w,((B2 es N).getD u 0).testBit w=true<->N10 es u w:=fun u w=>by
  rw[B17 hN (Nat.zero_le N) u w]
  grind
 rw[V78 (n:=N) fun v ⟨e,h1,h2⟩=>R7 (hsm e h1) h2,<- Q74 hN hb E (fun a b h=>h.symm) (fun a h=>h.1 rfl),<- K74 hb hsm hor];unfold Z74
 grind[R68]
end Go.Proofs.YtoiioigihocgbaaGreatDoor
namespace Go.Inv
def less(x:Int)(r:List Int):Nat:=r.countP fun y=>decide (y<x)
def inv:List Int->Nat
 | []=>0
 | x :: r=>less x r+inv r
def B37(a b:List Int):Nat:=(a.map fun x=>less x b).sum
theorem N91(x:Int)(a b:List Int):less x (a++b)=less x a+less x b:=List.countP_append
theorem J78:∀ a b:List Int,inv (a++b)=inv a+inv b+B37 a b
 | [],b=>by simp[inv,B37]
 | x :: a,b=>by
  have:=J78 a b;simp only[dL,inv,N91,B37,List.map_cons,List.sum_cons] at this ⊢;omega
theorem K30(x:Int)(a b:List Int):B37 (x :: a) b=less x b+B37 a b:=by simp[B37]
theorem R38:∀ a:List Int,B37 a []=0
 | []=>rfl
 | x :: a=>by rw[K30,R38 a];rfl
theorem E37:∀(a:List Int)(y:Int)(b:List Int),B37 a (y :: b)=(a.countP fun x=>decide (y<x))+B37 a b
 | [],y,b=>rfl
 | x :: a,y,b=>by
  rw[K30,K30,E37 a y b];simp only[less,List.countP_cons];omega
abbrev Srt(l:List Int):Prop:=l.Pairwise (· <= ·)
inductive R (w:Nat):List Int->List Int->Nat->Prop
 | last {p f:List Int}:p.length<=w->Srt f->f.Perm p->R w p f (inv p)
 | cons {p1 p2 f1 f2:List Int} {c:Nat}:p1.length=w->Srt f1->f1.Perm p1->R w p2 f2 c->R w (p1++p2) (f1++f2) (inv p1+c)
theorem Q113(x:Int)(l:List Int):less x l<=l.length:=List.countP_le_length
theorem X88:∀ l:List Int,inv l<=l.length*l.length
 | []=>by simp[inv]
 | x :: l=>by
  have h1:=X88 l;have h2:=Q113 x l;simp only[inv,cV];have:(l.length+1)*(l.length+1)=l.length*l.length+2*l.length+1:=by
   rw[dM,bJ];omega
  omega
end Go.Inv
namespace Go.Proofs.YtoiioigihocgbaaGreatDoor
open Go.Clo Go.Inv
section
variable {Q:List Nat->Nat->Prop} {f v:Nat} {p:List Nat}
def J13(p:List Nat):Nat:=inv (p.map fun(x:Nat)=>(x:Int))
theorem Y44(p:List Nat)(v:Nat):J13 (p++[v])=J13 p+p.countP fun x=>decide (v<x):=by
 unfold J13;rw[List.map_append,List.map_singleton,J78,E37,R38,List.countP_map];have e:inv [(v:Int)]=0:=by simp[inv,less]
 grind[List.countP_congr]
theorem Y114(p:List Nat)(v:Nat):J13 p<=J13 (p++[v]):=by rw[Y44];omega
def Lss(p:List Nat)(best:Option (List Nat)):Prop:=∀ b,best=some b->J13 p<J13 b
open Classical in
def nr(f:Nat)(P:List Nat->Prop):Nat->List Nat->Option (List Nat)->Option (List Nat)
 | 0,p,best=>if Lss p best/\P p then some p else best
 | k+1,p,best=>(aY f).foldl (fun s v=>if v ∈ p then s else nr f P k (p++[v]) s) best
open Classical in
def pr(f:Nat)(Q:List Nat->Nat->Prop):Nat->List Nat->Option (List Nat)->Option (List Nat)
 | 0,p,best=>if Lss p best then some p else best
 | k+1,p,best=>if Lss p best then(aY f).foldl (fun s v=>if v ∉ p/\Q p v then pr f Q k (p++[v]) s else s) best else best
theorem Z70{α β:Type}{g:α->β->α}{a:α}:∀ {l:List β},(∀ x ∈ l,g a x=a)->l.foldl g a=a
 | [],_=>rfl
 | x :: l,h=>by rw[dF,h x O2,Z70 fun y hy=>h y (by simp[hy])]
theorem X100{α β:Type}{g g':α->β->α}:∀ {l:List β} {a:α},(∀ x ∈ l,∀ a,g a x=g' a x)->l.foldl g a=l.foldl g' a
 | [],_,_=>rfl
 | x :: l,a,h=>by rw[dF,dF,h x O2,X100 fun y hy=>h y (by simp[hy])]
theorem M111{f:Nat}{P:List Nat->Prop}{b:List Nat}:∀(k:Nat) (p:List Nat),J13 b<=J13 p->nr f P k p (some b)=some b
 | 0,p,h=>by
  rw[nr,if_neg];rintro⟨h1,_⟩;have:=h1 b rfl;omega
 | k+1,p,h=>by
  rw[nr];refine Z70 fun v _ => ?_
  split
  .rfl
  .exact M111 k _ (bK h (Y114 p v))
theorem E50(h:p.Nodup)(hv:v ∉ p):(p++[v]).Nodup:=by
 grind
theorem K47{p:List Nat}{v:Nat}(h:∀ x ∈ p,x<f)(hv:v<f):∀ x ∈ p++[v],x<f:=fun x hx=>by
 grind
theorem N79{f:Nat}{P:List Nat->Prop}:∀(k:Nat) (p:List Nat) (best:Option (List Nat)),p.Nodup->(∀ x ∈ p,x<f)->p.length+k=f->(∀ r:List Nat,(p++r).Nodup->(∀ x ∈ p++r,x<f)->(p++r).length=f->¬ P (p++r))->nr f P k p best=best
 | 0,p,best,h1,h2,h3,h=>by
  rw[nr,if_neg];rintro⟨_,h4⟩;have:=h []
  simp_all
 | k+1,p,best,h1,h2,h3,h=>by
  rw[nr];refine Z70 fun v hv => ?_
  have hv:v<f:=by simpa using hv
  split
  .rfl
  .rename_i hp
   refine N79 k _ best (E50 h1 hp) (K47 h2 hv) O5 fun r a1 a2 a3 => ?_
   simp_all
def X40(Q:List Nat->Nat->Prop)(p:List Nat):Prop:=∀ p1 v p2,p=p1++v :: p2->Q p1 v
theorem W112:X40 Q []:=fun p1 v p2 h=>by simp at h
theorem Q110(h:X40 Q p)(hv:Q p v):X40 Q (p++[v]):=by
 intro p1 u p2 e;rcases List.eq_nil_or_concat p2 with rfl | ⟨p3,w,rfl⟩
 .simp_all
 .rw[show p1++u :: p3.concat w=(p1++u :: p3)++[w] by simp[List.concat_eq_append]] at e
  obtain⟨e1,_⟩:=List.append_inj' e rfl;exact h p1 u p3 e1
theorem E112{f:Nat}{P:List Nat->Prop}{Q:List Nat->Nat->Prop}(E:∀ q:List Nat,q.Nodup->(∀ x ∈ q,x<f)->q.length=f->(P q<->X40 Q q)):∀(k:Nat) (p:List Nat) (best:Option (List Nat)),p.Nodup->(∀ x ∈ p,x<f)->p.length+k=f->X40 Q p->pr f Q k p best=nr f P k p best
 | 0,p,best,h1,h2,h3,h=>by
  rw[pr,nr]
  grind
 | k+1,p,best,h1,h2,h3,h=>by
  rw[pr]
  by_cases hl:Lss p best
  .rw[if_pos hl,nr]
   refine X100 fun v hv s => ?_
   have hv:v<f:=by simpa using hv
   by_cases hp:v ∈ p
   .simp[hp]
   .by_cases hQ:Q p v
    .rw[if_pos ⟨hp,hQ⟩,if_neg hp]
     exact E112 E k _ s (E50 h1 hp) (K47 h2 hv) O5 (Q110 h hQ)
    .rw[if_neg (fun a=>hQ a.2),if_neg hp]
     refine(N79 k _ s (E50 h1 hp) (K47 h2 hv) O5 fun r a1 a2 a3 hP => ?_).symm;have hg:=(E _ a1 a2 a3).1 hP;exact hQ (hg p v r O2)
  .rw[if_neg hl]
   obtain⟨b,rfl,hb⟩:∃ b,best=some b/\J13 b<=J13 p:=by
    cases best with
    | none=>exact absurd (fun b e=>by cases e) hl
    | some b=>exact⟨b,rfl,aI fun hn=>hl fun b' e=>by cases e;omega⟩
   exact(M111 (k+1) p hb).symm
theorem N114:∀ x,x<64->∀ w,w<6->∀ v,v<6->x.testBit w=false->E9 ((x ||| 2^w) >>> v)=E9 (x >>> v)+if v<=w then 1 else 0:=by
 have h:((aY 64).all fun x=>(aY 6).all fun w=>(aY 6).all fun v=>x.testBit w || decide (E9 ((x ||| 2^w) >>> v)=E9 (x >>> v)+if v<=w then 1 else 0))=true:=by decide +kernel
 intro x hx w hw v hv hb;have h1:=bW.1 h x (by simpa using hx);have h2:=bW.1 h1 w (by simpa using hw)
 simp_all
def B13(f:Nat)(p:List Nat):Nat:=Q1 (fun w=>decide (w ∈ p)) f
theorem Y86{f:Nat}(hf:f<=6)(p:List Nat):B13 f p<64:=by
 have:=G11 (fun w=>decide (w ∈ p)) f;have h2:2^f<=2^6:=aK O0 hf;unfold B13;omega
theorem D40(f:Nat)(p:List Nat)(w:Nat):(B13 f p).testBit w=(decide (w<f)&&decide (w ∈ p)):=E26 _ _ _
theorem Z112(hv:v<f):B13 f p ||| 2^v=B13 f (p++[v]):=by
 grind[B13,Q38,N25]
theorem B105{v:Nat}(hv:v<f):B13 f (v :: p)=B13 f p ||| 2^v:=by
 grind[B13,Q38,N25,Bool.or_comm]
theorem K80(f:Nat):B13 f []=0:=by
 apply bZ;intro w;rw[D40];simp
theorem M85{f v:Nat}(hf:f<=6)(hv:v<f):∀ {p:List Nat},p.Nodup->(∀ x ∈ p,x<f)->v ∉ p->E9 (B13 f p >>> v)=p.countP fun x=>decide (v<x)
 | [],_,_,_=>by rw[K80,Nat.zero_shiftRight];rfl
 | w :: p,h1,h2,h3=>by
  rw[hO] at h1;have hw:=h2 w O2;have hb:(B13 f p).testBit w=false:=by rw[D40];simp[h1.1]
  rw[B105 hw,N114 _ (Y86 hf p) w O0 v O0 hb,M85 hf hv h1.2 (fun x hx=>h2 x (by simp[hx])) (fun h=>h3 (by simp[h])),List.countP_cons]
  grind
def N22(es:List Nat)(p:List Nat)(v:Nat):Prop:=∀ a ∈ p,∀ b ∈ p,a≠b->N10 es v a->N10 es v b->N10 es a b
def nlF(es:List Nat)(n f:Nat):List Nat:=(aY f).map fun v=>Q1 (adj es v) n
theorem N93(es:List Nat)(n f:Nat):(nlF es n f).length=f:=by simp[nlF]
theorem C48(es:List Nat)(n:Nat){f v:Nat}(hv:v<f):(nlF es n f)[v]? = some (Q1 (adj es v) n):=by simp[nlF,hv]
theorem K114{es p:List Nat}{n:Nat}(hf:f<=n)(hp:∀ x ∈ p,x<f):(∀ u x:Nat,u<f->(nlF es n f)[u]? = some x->(Q1 (adj es v) n &&& B13 f p).testBit u=true->Z2 (Q1 (adj es v) n &&& B13 f p) x=2^u)<->N22 es p v:=by
 have hb:∀ u,(Q1 (adj es v) n &&& B13 f p).testBit u=true<->u ∈ p/\N10 es v u:=fun u=>by
  rw[bI,E26,D40,aG,aG,aG,decide_eq_true_eq,decide_eq_true_eq,decide_eq_true_eq,M43]
  grind
 constructor
 .intro h a ha b E V h1 h2
  have O:=hp a ha;have W:=hp b E;have e:=h a _ O (C48 es n O) ((hb a).2 ⟨ha,h1⟩);have e2:=N1 (Q1 (adj es v) n &&& B13 f p) (Q1 (adj es a) n) b;rw[e,(hb b).2 ⟨E,h2⟩,aR,decide_eq_false V,E26,decide_eq_true (show b<n by omega),iA,iA] at e2
  grind[M43,adj]
 .intro h u x hu hx J
  rw[C48 es n hu] at hx
  cases hx
  obtain⟨h1,h2⟩:=(hb u).1 J;apply bZ;intro w;rw[N1,aR,E26]
  by_cases hw:u=w
  .subst hw
   rw[J,E43];simp
  .rw[decide_eq_false hw]
   cases U:(Q1 (adj es v) n &&& B13 f p).testBit w with
   | false=>rfl
   | true=>
    obtain⟨h3,h4⟩:=(hb w).1 U;have:=hp w h3;rw[M43.2 (h u h1 w h3 hw h2 h4),decide_eq_true (show w<n by omega)];rfl
end
section
variable (a0 a1 a2 a3 a4 a5 a6 a7 a8:Value) (H:Y0) (nx:Nat) (k:EP)
def F85:Prop:=
 D9 (.eqn false (.slice 56)) [a0,(.slice none 0 0)] fun b=>
 K2 b (
 Rt (.slice none 0 0) H nx k) (
 D24 0 1 [.int .u32 0] [] H nx fun b c d=>
 B5 b a0 1 4 c d fun b c d=>
 Rt b c d k)
def F53:Prop:=
 Y2 gQ 88 [a0,a1] H nx fun b c d=>
 D10 .geq b i0 fun b=>
 Rt b c d k
def F54:Prop:=
 D10 .neq a0 u0 fun b=>
 Rt b H nx k
def F86:Prop:=
 wAl [.int .i64 0,.int .i64 0,.int .i64 0] H nx fun b c d=>
 R4 a0 0 c fun e=>
 G3 (fun c d f g=>
 D10 .lss d.a e fun e=>
 K2 e (
 R4 a0 0 f fun e=>
 G3 (fun f g h i=>
 D10 .lss g.a e fun e=>
 K2 e (
 V4 (fun b=>
 M2 (i+29) fun c=>
 D10 .neq d.a g.a fun e=>
 K3 true e (
 U6 a1 d.a h fun e f=>
 wUn .not f fun i=>
 K3 true i (
 U6 a1 g.a h fun i j=>
 wUn .not j fun l=>
 K3 true l (
 U6 a0 d.a h fun d l=>
 U6 a0 g.a h fun g m=>
 D10 .andNot l m fun n=>
 D10 .eql n u0 fun n=>
 wK ((tB (cE g none h m))/\((tB (cE d none h l))/\((tB (cE i none h j))/\(tB (tB (cE e none h f)))))) (
 b [n] h c)) (
 wK ((tB (cE i none h j))/\(tB (tB (cE e none h f)))) (
 b [bF] h c))) (
 wK (tB (tB (cE e none h f))) (
 b [bF] h c))) (
 wK True (
 b [bF] h c))) (fun c e h=>
 K2 c.a (
 U11 [.int .i64 0,.int .i64 0,.int .i64 0] [(0,1),(1,1),(2,1)] [(0,d.a),(1,g.a),(2,(.int .i64 (-1)))] fun c=>
 D5 b c 3 e fun c=>
 J1 b (some 3) c fun b=>
 Rt (.tuple ⟨[b,bT]⟩) c h k) (
 D10 .add g.a i1 fun b=>
 f [b] e h))) (
 D10 .add d.a i1 fun b=>
 c [b] h i)) [i0] f g) (
 U11 [.int .i64 0,.int .i64 0,.int .i64 0] [(0,1),(1,1),(2,1)] [] fun c=>
 D5 b c 3 f fun c=>
 J1 b (some 3) c fun b=>
 Rt (.tuple ⟨[b,bF]⟩) c g k)) [i0] c d
def F87:Prop:=
 wAl [.int .i64 0,.int .i64 0,.int .i64 0] H nx fun b c d=>
 G3 (fun c d e f=>
 D10 .lss d.a a0 fun g=>
 K2 g (
 R4 a1 0 e fun g=>
 G3 (fun e f h i=>
 D10 .lss f.c g fun g=>
 K2 g (
 V4 (fun b=>
 U6 a1 f.c h fun _ c=>
 D10 .shr c d.a fun c=>
 D10 .and c u1 fun c=>
 D10 .eql c u1 fun c=>
 K2 c (
 D10 .add f.a i1 fun c=>
 b [c,f.c] h i) (
 b [f.a,f.b] h i)) (fun b c d=>
 D10 .add f.c i1 fun f=>
 e [b.a,b.b,f] c d)) (
 D10 .eql f.a i1 fun e=>
 K2 e (
 U11 [.int .i64 0,.int .i64 0,.int .i64 0] [(0,1),(1,1),(2,1)] [(0,f.b),(1,(.int .i64 (-1))),(2,d.a)] fun c=>
 D5 b c 3 h fun c=>
 J1 b (some 3) c fun b=>
 Rt (.tuple ⟨[b,bT]⟩) c i k) (
 D10 .add d.a i1 fun b=>
 c [b] h i))) [i0,i0,i0] e f) (
 U11 [.int .i64 0,.int .i64 0,.int .i64 0] [(0,1),(1,1),(2,1)] [] fun c=>
 D5 b c 3 e fun c=>
 J1 b (some 3) c fun b=>
 Rt (.tuple ⟨[b,bF]⟩) c f k)) [i0] c d
def F52:Prop:=
 M12 a0 H nx fun b c d=>
 J1 b (some 2) c fun e=>
 Y2 gQ 27 [e] c d fun c d e=>
 D10 .neq c i0 fun c=>
 K2 c (
 Rt (.tuple ⟨[(.slice none 0 0),(.slice none 0 0)]⟩) d e k) (
 wFl b 1 d fun _ c=>
 Y2 gQ 85 [c] d e fun c d e=>
 R4 c 0 d fun f=>
 G29 f f [.bool false] d e fun d e f=>
 G3 (fun e f g h=>
 Y2 gQ 86 [c,d] g h fun g h i=>
 G9 g 0 fun j=>
 G9 g 1 fun g=>
 wAl [.int .i64 0,.int .i64 0,.int .i64 0] h i fun h i l=>
 D5 h j 3 i fun i=>
 V4 (fun e=>
 K2 g (
 wFl h 0 i fun _ b=>
 M3 c b none 1 fun b=>
 D5 b u0 1 i fun b=>
 wFl h 0 b fun _ c=>
 M3 d c none 1 fun c=>
 D5 c bT 1 b fun b=>
 e [] b l) (
 wFl b 0 i fun _ b=>
 Y2 gQ 87 [b,c] i l fun b d g=>
 G9 b 0 fun i=>
 G9 b 1 fun b=>
 D5 h i 3 d fun d=>
 K2 b (
 M2 (g+11) fun b=>
 wFl h 0 d fun f g=>
 U6 c g d fun i j=>
 wFl h 2 d fun h l=>
 D10 .shl u1 l fun m=>
 D10 .andNot j m fun m=>
 M3 c g none 1 fun c=>
 D5 c m 1 d fun c=>
 wK ((tA (tB (cE h none d l)))/\((tA (tB (cE i none d j)))/\(tB (tA (tB (cE f none d g)))))) (
 e [] c b)) (
 Rt (.tuple ⟨[f.a,c]⟩) d g k))) (fun _ b c=>
 J1 h (some 3) b fun d=>
 D24 1 3 [.int .i64 0,.int .i64 0,.int .i64 0] [(0,d)] b c fun b c d=>
 B5 f.a b 3 24 c d fun b c d=>
 e [b] c d)) [(.slice none 0 0)] e f)
def F19:Prop:=
 M12 a0 H nx fun b c d=>
 J1 b (some 2) c fun e=>
 Y2 gQ 27 [e] c d fun c d e=>
 D10 .neq c i0 fun c=>
 K2 c (
 Rt bF d e k) (
 J1 b (some 2) d fun b=>
 Y2 gQ 52 [b] d e fun b c d=>
 G9 b 0 fun _=>
 G9 b 1 fun b=>
 Y2 gQ 53 [b,(.func (.func 54) ⟨[]⟩ ⟨[]⟩)] c d fun b c d=>
 wUn .not b fun b=>
 Rt b c d k)
def F84:Prop:=
 R4 a0 0 H fun b=>
 G3 (fun c d e f=>
 D10 .lss d.a b fun b=>
 K2 b (
 V4 (fun b=>
 M2 (f+16) fun c=>
 D10 .shr a1 d.a fun f=>
 D10 .and f u1 fun f=>
 D10 .eql f u1 fun f=>
 K3 true f (
 U6 a0 d.a e fun f g=>
 D10 .andNot a1 g fun h=>
 D10 .shl u1 d.a fun d=>
 D10 .neq h d fun d=>
 wK (tB (tB (cE f none e g))) (
 b [d] e c)) (
 wK True (
 b [bF] e c))) (fun b e f=>
 K2 b.a (
 Rt bF e f k) (
 D10 .add d.a i1 fun b=>
 c [b] e f))) (
 Rt bT e f k)) [i0] H nx
def F83:Prop:=
 V4 (fun b=>
 J1 a3 none H fun c=>
 K3 true c (
 J1 a4 none H fun c=>
 D10 .geq a2 c fun c=>
 b [c] H nx) (
 b [bF] H nx)) (fun b c d=>
 K2 b.a (
 Rt (.tuple ⟨[]⟩) c d k) (
 R4 a0 0 c fun b=>
 J1 a5 none c fun e=>
 D10 .eql b e fun b=>
 K2 b (
 Y2 gQ 26 [a0] c d fun b c d=>
 D5 a6 b 1 c fun b=>
 D5 a4 a2 1 b fun b=>
 D5 a3 bT 1 b fun b=>
 Rt (.tuple ⟨[]⟩) b d k) (
 J1 a5 none c fun b=>
 G3 (fun c d e f=>
 D10 .lss d.a b fun b=>
 K2 b (
 V4 (fun b=>
 V4 (fun b=>
 M2 (f+15) fun c=>
 D10 .shr a1 d.a fun f=>
 D10 .and f u1 fun f=>
 D10 .eql f u0 fun f=>
 K3 true f (
 J1 a7 none e fun f=>
 J1 a7 none e fun g=>
 U6 g d.a e fun d h=>
 D10 .and h a1 fun i=>
 Y2 gQ 84 [f,i] e c fun c i j=>
 wK ((tA (tB (cE d none e h)))/\((tA (tB (cE a7 none e g)))/\(tB (tA (tB (cE a7 none e f)))))) (
 b [c] i j)) (
 wK True (
 b [bF] e c))) (fun c e f=>
 K2 c.a (
 M2 (f+16) fun c=>
 J1 a8 none e fun g=>
 K6 1 1 [.int .i64 0] [(0,d.a)] fun h=>wNm f 3 (.slice 1 1) fun i=>
 E6 e (f+3) (some (.cells h 0)) fun f=>B5 a0 i 1 8 f c fun c f h=>
 D10 .shl u1 d.a fun i=>
 D10 .or a1 i fun i=>
 D10 .shr a1 d.a fun d=>
 Y2 gQ 44 [d] f h fun d h j=>
 D10 .add a2 d fun d=>
 M33 gQ g [c,i,d] h j fun _ c d=>
 wK (tB (tA ((cE a8 none h g)/\((cE a8 none f g)/\(tB (cE a8 none e g)))))) (
 b [] c d)) (
 b [] e f))) (fun _ b e=>
 D10 .add d.a i1 fun d=>
 c [d] b e)) (
 Rt (.tuple ⟨[]⟩) e f k)) [i0] c d)))
def F50:Prop:=
 M12 a0 H nx fun b c d=>
 M12 a1 c d fun c d e=>
 J1 c none d fun f=>
 G29 f f [.int .u32 0] d e fun d e f=>
 wAl [.slice none 0 0] e f fun e f g=>
 D5 e d 1 f fun d=>
 J1 c none d fun f=>
 G3 (fun d g h i=>
 D10 .lss g.a f fun f=>
 K2 f (
 M2 (i+7) fun c=>
 J1 e none h fun f=>
 J1 b (some 2) h fun i=>
 Y2 gQ 70 [i,g.a] h c fun c j l=>
 M3 f g.a none 1 fun m=>
 D5 m c 1 j fun c=>
 wK ((tA (tA (tB (cE b (some 2) h i))))/\(tB (tA ((cE e none j f)/\(tB (cE e none h f)))))) (
 D10 .add g.a i1 fun b=>
 d [b] c l)) (
 wAl [.slice none 0 0] h i fun b d f=>
 wAl [.int .i64 0] d f fun d f g=>
 wAl [.bool false] f g fun f g h=>
 D5 d i0 1 g fun g=>
 D5 f bF 1 g fun g=>
 wAl [.nilFunc] g h fun g h i=>
 D5 g (.func (.func 83) ⟨[]⟩ ⟨[f,d,c,b,e,g]⟩) 1 h fun e=>
 M2 (i+4) fun h=>
 J1 g none e fun j=>
 J1 c none e fun l=>
 D30 i0 l [.int .i64 0] fun m n o=>wNm i 2 (.slice n o) fun n=>
 E6 e (i+2) (some (.cells m 0)) fun i=>M33 gQ j [n,u0,i0] i h fun _ h i=>
 wK ((tA (tB (cE c none e l)))/\(tB (tA (tB (cE g none e j))))) (
 M2 (i+6) fun c=>
 J1 b none h fun e=>
 J1 d none h fun g=>
 J1 f none h fun i=>
 wK ((tB (cE f none h i))/\((tB (cE d none h g))/\(tB (tB (cE b none h e))))) (
 Rt (.tuple ⟨[e,g,i]⟩) h c k)))) [i0] d g
def F17:Prop:=
 M12 a0 H nx fun b c d=>
 J1 b (some 2) c fun e=>
 Y2 gQ 25 [e,a1] c d fun c d e=>
 D10 .neq c i0 fun f=>
 K2 f (
 Rt (.tuple ⟨[(.slice none 0 0),i0,c]⟩) d e k) (
 D10 .gtr a1 (.int .i64 8) fun c=>
 K2 c (
 Rt (.tuple ⟨[(.slice none 0 0),i0,(.int .i64 12)]⟩) d e k) (
 J1 b (some 2) d fun c=>
 Y2 gQ 19 [c] d e fun c d e=>
 wUn .not c fun c=>
 K2 c (
 Rt (.tuple ⟨[(.slice none 0 0),i0,(.int .i64 24)]⟩) d e k) (
 J1 b (some 2) d fun c=>
 Y2 gQ 14 [c,a1] d e fun c d e=>
 G9 c 0 fun _=>
 G9 c 1 fun c=>
 K2 c (
 Rt (.tuple ⟨[(.slice none 0 0),i0,(.int .i64 25)]⟩) d e k) (
 J1 b (some 2) d fun b=>
 Y2 gQ 50 [b,a1] d e fun b c d=>
 G9 b 0 fun e=>
 G9 b 1 fun f=>
 G9 b 2 fun b=>
 wUn .not b fun b=>
 K2 b (
 Rt (.tuple ⟨[(.slice none 0 0),i0,(.int .i64 25)]⟩) c d k) (
 Rt (.tuple ⟨[e,f,i0]⟩) c d k)))))
def F21:Prop:=
 G3 (fun b c d e=>
 R4 a0 0 d fun f=>
 D10 .lss c.b f fun f=>
 K2 f (
 U6 a0 c.b d fun _ f=>
 G3 (fun d e f g=>
 R4 a1 0 f fun h=>
 D10 .lss e.b h fun h=>
 K2 h (
 W8 .u64 e.b fun b=>
 D10 .shl u1 b fun b=>
 D10 .andNot e.a b fun b=>
 D10 .add e.b i1 fun c=>
 d [b,c] f g) (
 G3 (fun d e f g=>
 R4 a1 0 f fun h=>
 D10 .lss e.b h fun h=>
 K2 h (
 V4 (fun b=>
 M2 (g+9) fun d=>
 U6 a0 c.b f fun c g=>
 U6 a1 e.b f fun h i=>
 Y2 gQ 55 [g,i] f d fun d j l=>
 wK ((tA (tB (cE h none f i)))/\(tB (tA (tB (cE c none f g))))) (
 K2 d (
 W8 .u64 e.b fun c=>
 D10 .shl u1 c fun c=>
 D10 .or e.a c fun c=>
 b [c] j l) (
 b [e.a] j l))) (fun b c f=>
 D10 .add e.b i1 fun e=>
 d [b.a,e] c f)) (
 D24 1 1 [.int .u32 0] [(0,e.a)] f g fun d e f=>
 B5 c.a d 1 4 e f fun d e f=>
 D10 .add c.b i1 fun c=>
 b [d,c] e f)) [e.a,i0] f g)) [f,i0] d e) (
 Rt c.a d e k)) [(.slice none 0 0),i0] H nx
def F20:Prop:=
 G3 (fun b c d e=>
 R4 a0 0 d fun f=>
 D10 .lss c.b f fun f=>
 K2 f (
 D10 .add c.b i1 fun f=>
 G3 (fun d e f g=>
 R4 a0 0 f fun h=>
 D10 .lss e.b h fun h=>
 K2 h (
 V4 (fun b=>
 M2 (g+9) fun d=>
 U6 a0 c.b f fun c g=>
 U6 a0 e.b f fun h i=>
 D10 .gtr g i fun j=>
 wK ((tB (cE h none f i))/\(tB (tB (cE c none f g)))) (
 K2 j (
 D10 .add e.a i1 fun c=>
 b [c] f d) (
 b [e.a] f d))) (fun b c f=>
 D10 .add e.b i1 fun e=>
 d [b.a,e] c f)) (
 D10 .add c.b i1 fun c=>
 b [e.a,c] f g)) [c.a,f] d e) (
 Rt c.a d e k)) [i0,i0] H nx
variable {a0 a1 a2 a3 a4 a5 a6 a7 a8 H nx k}
theorem spec85:F85 a0 H nx k->Q2 gQ 85 [a0] H nx k:=Q12 [] [] []
theorem spec53:F53 a0 a1 H nx k->Q2 gQ 53 [a0,a1] H nx k:=Q12 [] [] []
theorem spec54:F54 a0 H nx k->Q2 gQ 54 [a0] H nx k:=Q12 [] [] []
theorem spec86:F86 a0 a1 H nx k->Q2 gQ 86 [a0,a1] H nx k:=Q12 [(12,[46])] [[10],[15]] [.one (.tst (.one (.tst (.one (.tst (.one .nil) (.one .nil))) (.one (.one (.one .nil))))) (.one (.one (.one (.one (.one .nil))))))]
theorem spec87:F87 a0 a1 H nx k->Q2 gQ 87 [a0,a1] H nx k:=Q12 [(12,[7,8])] [[11],[7,8,16]] []
theorem spec52:F52 a0 H nx k->Q2 gQ 52 [a0] H nx k:=Q12 [(8,[])] [[6]] []
theorem spec19:F19 a0 H nx k->Q2 gQ 19 [a0] H nx k:=Q12 [] [] []
theorem spec84:F84 a0 a1 H nx k->Q2 gQ 84 [a0,a1] H nx k:=Q12 [(7,[26])] [[8]] [.one (.tst (.one .nil) (.one .nil))]
theorem spec83:F83 a0 a1 a2 a3 a4 a5 a6 a7 a8 H nx k->Q2 gQ 83 [a0,a1,a2,a3,a4,a5,a6,a7,a8] H nx k:=Q12 [(1,[18]),(8,[]),(10,[44])] [[27]] [.one (.tst (.one .nil) (.one .nil)),.one (.tst (.one .nil) (.one .nil))]
theorem spec50:F50 a0 a1 H nx k->Q2 gQ 50 [a0,a1] H nx k:=Q12 [] [[16]] []
theorem spec17:F17 a0 a1 H nx k->Q2 gQ 17 [a0,a1] H nx k:=Q12 [] [] []
theorem spec21:F21 a0 a1 H nx k->Q2 gQ 21 [a0,a1] H nx k:=Q12 [(17,[7])] [[5,6],[7,8],[7,9]] []
theorem spec20:F20 a0 H nx k->Q2 gQ 20 [a0] H nx k:=Q12 [(10,[3])] [[3,4],[3,5]] []
end
end Go.Proofs.YtoiioigihocgbaaGreatDoor
namespace Go.Clo
theorem Z114{H:Y0}{nx b s bytes n cap:Nat}{c:List Value}{x y:Value}{k:EP}(hg:J0 H b=some (.cells c s))(hl:c.length=cap)(hn:n<cap)(hx:Src H 1 x 1 [y])(ho:Z0 [y]=true)(hb:bytes<=16)(hc:cap<=1000):
  B5 (.slice (some ⟨b,0,none⟩) n cap) x 1 bytes H nx k=k (.slice (some ⟨b,0,none⟩) (n+1) cap) (hs H b (some (.cells (c.set n y) s))) nx:=by
 have E:(2*(n+1)+1000)*bytes<=281474976710656:=by
  have:=eL (show 2*(n+1)+1000<=4000 by omega) hb;omega
 unfold B5 Z22;rw[hx.len];dsimp only;rw[G1,V6 E,V6 (show n+1<=1000000000 by omega)];simp only[Bool.and_self,cond_true];rw[hx.first,ho,V6 (show n+1<=cap by omega)];simp only[cond_true];unfold C42;dsimp only;rw[G1,J30,hg,U20,cF,eQ,N31 O0];exact propext ⟨fun h=>h.2,fun h=>⟨by simp;omega,h⟩⟩
theorem J112{n:Nat}(h:n<=1000000)(z:Int)(k:List Value->Nat->Nat->Prop):D30 (.int .i64 0) (.int .i64 (n:Int)) [.int .i64 z] k=k (U4 (aF n z)) 0 n:=by
 show(cond (dD 0 n&&dD n 1000000) (Go.Clo.spine (Q19 [.int .i64 z] n) fun cs=>k cs 0 n) False)=_;rw[V6 (Nat.zero_le n),V6 h,B29];exact V14 _ _
end Go.Clo
namespace Go.Proofs.YtoiioigihocgbaaGreatDoor
open Go.Clo Go.Inv
theorem N109 (a:Addr) (l:List Nat) (cap:Nat) (H:Y0) (nx:Nat) (hS:Sl H nx (some a) (U4 (l.map fun (x:Nat)=>(x:Int)))) (h0:Has H nx (some a)) (hl:l.length<=100):
  Q2 Tryz.prog 26 [.slice (some a) l.length cap] H nx fun r H' nx'=>(∃ B,r = .slice B l.length l.length/\(l=[]\/∃ x s,B=some ⟨x,0,none⟩/\nx<=x/\x<nx'/\J0 H' x=some (.cells (U4 (l.map fun (x:Nat)=>(x:Int))) s)))/\D0 H nx H' nx':=by
 refine spec26 ?_
 unfold F26
 simp only[W1]
 rw[G21]
 simp (disch:=first | omega | assumption | exact G0 (by assumption) | exact U10 (by assumption) | exact X0 (by omega) | fail   ) only[W0,Q0.val,Option.isNone,U21]
 have hX:D0 H nx (hs H nx (some (.cells [] 0))) (nx+1):=(D0.refl H nx).new _ (Nat.le_refl _) (by omega)
 refine R20 (lo:=nx) (H0:=H) (l:=U4 (l.map fun (x:Nat)=>(x:Int))) (Z11 _ _ _) (Nat.le_refl _) (by omega) (C27 (hS.ext hX) (h0.ext hX) (by rw[J6,Nat.mul_one]) (by omega)) (K13 _) (by omega) (by omega) hX ?_
 intro v1 H1 nx1 _ hA1 hE1
 have hA2:=hA1
 obtain⟨P,rfl,hP,_⟩:=hA1.sl
 rw[J6]
 refine⟨⟨P,rfl,?_⟩,hE1⟩
 rcases hA2 with hA2 | ⟨e,_⟩
 .rcases hA2.2 with ⟨e,_⟩ | ⟨q,q1,q2,q3,q4⟩
  .rw[J6] at e
   exact .inl (List.length_eq_zero_iff.1 e)
  .injection q3 with q5
   exact .inr ⟨q,_,q5,q1,q2,q4⟩
 .have:=congrArg List.length e
  rw[J6] at this
  exact .inl (List.length_eq_zero_iff.1 this)
theorem X103{f b set:Nat}{nl:List Nat}(hf:f<=6)(hl:nl.length=f)(Z:∀ x ∈ nl,x<64)(hs:set<64)(H:Y0)(nx:Nat)(hg:J0 H b=some (.cells (K12 nl) 0)):
  Q2 gQ 84 [.slice (some ⟨b,0,none⟩) f f,.int .u32 (set:Int)] H nx fun r H' nx'=>(∃ c:Bool,r = .bool c/\(c=true<->∀ u x:Nat,u<f->nl[u]? = some x->set.testBit u=true->Z2 set x=2^u))/\D0 H nx H' nx':=by
 refine spec84 ?_;unfold F84;simp only[W0];refine B1 (m:=f) (fun m L H' nx'=>∃ i:Nat,m+i=f/\L=[.int .i64 (i:Int)]/\(∀ u x:Nat,u<i->nl[u]? = some x->set.testBit u=true->Z2 set x=2^u)/\H=H'/\nx<=nx') ?_ ⟨0,rfl,rfl,fun u x h=>O0,rfl,aD _⟩;rintro m ih L _ n2 ⟨i,hm,rfl,O,rfl,V⟩ Q
 by_cases hi:i<f
 .have E:(i:Int)<(f:Int):=O0
  obtain⟨x,hx⟩:∃ x,nl[i]? = some x:=⟨_,aE O0⟩
  have g0:=Q3 hx;have a0:=Z x (aH hx);have U:i<32:=O0;have W:set<4294967296:=O0;have a2:x<4294967296:=O0;have a1:=G0 (n:=i) W
  cases hb:set.testBit i with
  | false=>
   simp(config:={ maxSteps:=2000000 }) (disch:=omega)only[W0,E,N13,hb];refine Q (m-1) _ _ _ O0 ⟨i+1,O0,O2,fun u y hu hy J => ?_,rfl,O0⟩
   by_cases e:u=i
   .subst e;rw[hb] at J;cases J
   .exact O u y O0 hy J
  | true=>
   have a3:2^i<4294967296:=Y18 U
   by_cases he:Z2 set x=2^i
   .have d1:decide (((Z2 set x:Nat):Int)≠((2^i:Nat):Int))=false:=by simp[he]
    simp(config:={ maxSteps:=2000000 }) (disch:=omega)only[W0,E,N13,hb,hg,g0,d1];refine Q (m-1) _ _ _ O0 ⟨i+1,O0,O2,fun u y hu hy J => ?_,rfl,O0⟩
    by_cases e:u=i
    .subst e;rw[hx] at hy;cases hy;exact he
    .exact O u y O0 hy J
   .have d1:decide (((Z2 set x:Nat):Int)≠((2^i:Nat):Int))=true:=by
     rw[decide_eq_true_eq];intro e;exact he (Int.ofNat.inj e)
    simp(config:={ maxSteps:=2000000 }) (disch:=omega)only[W0,E,N13,hb,hg,g0,d1];exact⟨⟨false,rfl,fun h=>(by cases h),fun h=>absurd (h i x hi hx hb) he⟩,D0.sf⟩
 .have E:¬ (i:Int)<(f:Int):=O0
  simp only[W0,E];exact⟨⟨true,rfl,fun _ u x hu hx hb=>O u x O0 hx hb,fun _=>rfl⟩,D0.self V⟩
structure QQ where
 fr:Nat
 ar:Nat
 nr:Nat
 be:Nat
 le:Nat
 fo:Nat
 se:Nat
 bl:Nat
def U36(l:List Nat):List Value:=U4 (l.map fun(x:Nat)=>(x:Int))
theorem Y92(l:List Nat):(U36 l).length=l.length:=J6 l
def K79(best:Option (List Nat)):Nat:=match best with
 | some b=>J13 b
 | none=>0
structure SE (es:List Nat) (n f:Nat) (q:QQ) (best:Option (List Nat)) (c:List Value) (H:Y0) (m:Nat):Prop where
 o1:q.fr<q.ar
 o2:q.ar<q.nr
 o3:q.nr<q.be
 o4:q.be<q.le
 o5:q.le<q.fo
 o6:q.fo<q.se
 o7:q.se<q.bl
 o8:q.bl<m
 gfr:J0 H q.fr=some (.cells [.int .i64 (f:Int)] 0)
 gar:J0 H q.ar=some (.cells (K12 (nlF es n f)) 0)
 gnr:J0 H q.nr=some (.cells [.slice (some ⟨q.ar,0,none⟩) f f] 0)
 gbe:∃ B,J0 H q.be=some (.cells [.slice B (best.getD []).length (best.getD []).length] 0)/\(best.getD []=[]\/∃ x s,B=some ⟨x,0,none⟩/\q.bl<x/\x<m/\J0 H x=some (.cells (U36 (best.getD [])) s))
 gle:J0 H q.le=some (.cells [.int .i64 (K79 best:Int)] 0)
 gfo:J0 H q.fo=some (.cells [.bool best.isSome] 0)
 gse:J0 H q.se=some (.cells [.func (.func 83) ⟨[]⟩ ⟨[.pointer (some ⟨q.fo,0,none⟩),.pointer (some ⟨q.le,0,none⟩),.pointer (some ⟨q.fr,0,none⟩),.pointer (some ⟨q.be,0,none⟩),.pointer (some ⟨q.nr,0,none⟩),.pointer (some ⟨q.se,0,none⟩)]⟩] 0)
 gbl:J0 H q.bl=some (.cells c 0)
 cl:c.length=f
section
variable {es:List Nat} {n f:Nat} {q:QQ} {best:Option (List Nat)} {c:List Value} {H:Y0} {m:Nat}
theorem SE.ext{H':Y0}{m':Nat}(h:SE es n f q best c H m)(e:D0 H m H' m'):SE es n f q best c H' m':=by
 have o1:=h.o1;have o2:=h.o2;have o3:=h.o3;have o4:=h.o4;have o5:=h.o5;have o6:=h.o6;have o7:=h.o7;have o8:=h.o8;have E:=e.le;obtain⟨B,b1,b2⟩:=h.gbe;refine⟨o1,o2,o3,o4,o5,o6,o7,O0,(e.gt _).trans h.gfr,(e.gt _).trans h.gar,(e.gt _).trans h.gnr,⟨B,(e.gt _).trans b1,?_⟩,(e.gt _).trans h.gle,(e.gt _).trans h.gfo,(e.gt _).trans h.gse,(e.gt _).trans h.gbl,h.cl⟩;rcases b2 with b2 | ⟨x,s,rfl,x1,x2,x3⟩
 .exact .inl b2
 .exact .inr ⟨x,s,rfl,x1,O0,(e.get _ x2).trans x3⟩
theorem SE.put(h:SE es n f q best c H m){c':List Value}(hc:c'.length=f):SE es n f q best c' (hs H q.bl (some (.cells c' 0))) m:=by
 have o1:=h.o1;have o2:=h.o2;have o3:=h.o3;have o4:=h.o4;have o5:=h.o5;have o6:=h.o6;have o7:=h.o7;have o8:=h.o8;obtain⟨B,b1,b2⟩:=h.gbe;refine⟨o1,o2,o3,o4,o5,o6,o7,o8,(gN _).trans h.gfr,(gN _).trans h.gar,(gN _).trans h.gnr,⟨B,(gN _).trans b1,?_⟩,(gN _).trans h.gle,(gN _).trans h.gfo,(gN _).trans h.gse,Z11 _ _ _,hc⟩;rcases b2 with b2 | ⟨x,s,rfl,x1,x2,x3⟩
 .exact .inl b2
 .exact .inr ⟨x,s,rfl,x1,x2,(gN _).trans x3⟩
theorem SE.found(h:SE es n f q best c H m){p:List Nat}{B:Option Addr}(hB:p=[]\/∃ x s,B=some ⟨x,0,none⟩/\q.bl<x/\x<m/\J0 H x=some (.cells (U36 p) s)):
  SE es n f q (some p) c (hs (hs (hs H q.be (some (.cells [.slice B p.length p.length] 0))) q.le (some (.cells [.int .i64 (J13 p:Int)] 0))) q.fo (some (.cells [.bool true] 0))) m:=by
 have o1:=h.o1;have o2:=h.o2;have o3:=h.o3;have o4:=h.o4;have o5:=h.o5;have o6:=h.o6;have o7:=h.o7;have o8:=h.o8;have key:∀ {i:Nat} {x y z:Option V3},i≠q.be->i≠q.le->i≠q.fo->J0 (hs (hs (hs H q.be x) q.le y) q.fo z) i=J0 H i:=fun a1 a2 a3=>by rw[Z1 _ a3,Z1 _ a2,Z1 _ a1]
 refine⟨o1,o2,o3,o4,o5,o6,o7,o8,(key O0 O0 O0).trans h.gfr,(key O0 O0 O0).trans h.gar,(key O0 O0 O0).trans h.gnr,⟨B,?_,?_⟩,?_,Z11 _ _ _,(key O0 O0 O0).trans h.gse,(key O0 O0 O0).trans h.gbl,h.cl⟩
 .rw[gN _,gN _];exact Z11 _ _ _
 .rcases hB with hB | ⟨x,s,rfl,x1,x2,x3⟩
  .exact .inl hB
  .exact .inr ⟨x,s,rfl,x1,x2,(key O0 O0 O0).trans x3⟩
 .rw[gN _];exact Z11 _ _ _
theorem N95{Q:List Nat->Nat->Prop}{p:List Nat}(h:¬ Lss p best):∀ k,pr f Q k p best=best
 | 0=>by rw[pr,if_neg h]
 | k+1=>by rw[pr,if_neg h]
open Classical in
def prS(f:Nat)(Q:List Nat->Nat->Prop)(k:Nat)(p:List Nat)(best:Option (List Nat))(v:Nat):Option (List Nat):=
 (aY v).foldl (fun s v=>if v ∉ p/\Q p v then pr f Q k (p++[v]) s else s) best
open Classical in
theorem K72{Q:List Nat->Nat->Prop}{k:Nat}{p:List Nat}{v:Nat}:prS f Q k p best (v+1)=if v ∉ p/\Q p v then pr f Q k (p++[v]) (prS f Q k p best v) else prS f Q k p best v:=by
 unfold prS;rw[List.range_succ,List.foldl_append];rfl
theorem V109{x:Nat}(hn:n<=6)(h:x ∈ nlF es n f):x<64:=by
 obtain⟨v,_,rfl⟩:=gN.1 h;have:=G11 (adj es v) n;have h2:2^n<=2^6:=aK O0 hn;omega
variable (hn:n<=6) (hf:f<=n)
include hn hf
theorem Y112:∀ (k:Nat) (p:List Nat) (best:Option (List Nat)) (c:List Value) (H:Y0) (m:Nat),SE es n f q best c H m->p.Nodup->(∀ x ∈ p,x<f)->p.length+k=f->c.take p.length=U36 p ->
  Q2 Tryz.prog 83 [.slice (some ⟨q.bl,0,none⟩) p.length f,.int .u32 (B13 f p:Int),.int .i64 (J13 p:Int),.pointer (some ⟨q.fo,0,none⟩),.pointer (some ⟨q.le,0,none⟩),.pointer (some ⟨q.fr,0,none⟩),.pointer (some ⟨q.be,0,none⟩),.pointer (some ⟨q.nr,0,none⟩),.pointer (some ⟨q.se,0,none⟩)] H m
   fun r H' m'=>(∃ c',SE es n f q (pr f (N22 es) k p best) c' H' m'/\c'.take p.length=c.take p.length)/\m<=m'/\∀ i,i<q.fr->J0 H' i=J0 H i:=by
 intro k
 induction k with
 | zero=>
  intro p best c H m hE hnd hlt hpk htk
  have o1:=hE.o1;have o2:=hE.o2;have o3:=hE.o3;have o4:=hE.o4;have o5:=hE.o5;have o6:=hE.o6;have o7:=hE.o7;have o8:=hE.o8
  refine spec83 ?_
  unfold F83
  refine N5 (fun L H' m'=>(∃ c:Bool,L=[.bool c]/\(c=true<->¬ Lss p best))/\H=H'/\m=m') ?_ ?_
  .intro j hj
   cases best with
   | none=>
    simp (disch:=first | omega | assumption | exact G0 (by assumption) | exact U10 (by assumption) | exact X0 (by omega) | fail   ) only[W0,hE.gfo,Option.isSome_none]
    exact hj _ _ _ ⟨⟨false,rfl,fun h=>(by cases h),fun h=>absurd (fun b e=>by cases e) h⟩,rfl,rfl⟩
   | some b0=>
    simp (disch:=first | omega | assumption | exact G0 (by assumption) | exact U10 (by assumption) | exact X0 (by omega) | fail   ) only[W0,hE.gfo,hE.gle,Option.isSome_some,K79]
    refine hj _ _ _ ⟨⟨_,rfl,?_⟩,rfl,rfl⟩
    rw[decide_eq_true_eq]
    exact⟨fun h hl=>by have:=hl b0 rfl;omega,fun h=>Classical.byContradiction fun h2=>h fun b e=>by cases e;omega⟩
  rintro _ _ _ ⟨⟨cc,rfl,hcc⟩,rfl,rfl⟩
  cases cc with
  | true=>
   rw[N95 (hcc.1 rfl)]
   simp (disch:=first | omega | assumption | exact G0 (by assumption) | exact U10 (by assumption) | exact X0 (by omega) | fail   ) only[W0,Q0.val]
   exact⟨⟨c,hE,rfl⟩,fun _ _=>trivial⟩
  | false=>
  have hL:Lss p best:=Classical.byContradiction fun h=>by have:=hcc.2 h;cases this
  rw[pr,if_pos hL]
  have d1:decide ((p.length:Int)=(f:Int))=true:=by simp;omega
  simp (disch:=first | omega | assumption | exact G0 (by assumption) | exact U10 (by assumption) | exact X0 (by omega) | fail  ) only[W0,Q0.val,hE.gfr,d1]
  have hci:c=U36 p:=by rw[<- htk,List.take_of_length_le (by have:=hE.cl;omega)]
  have hSl:Sl H m (some ⟨q.bl,0,none⟩) (U36 p):=fun i u hu=>⟨q.bl,0,c,rfl,o8,by unfold Q5;rw[hE.gbl];rfl,by rw[Nat.zero_add,hci];exact hu⟩
  refine R0 (N109 ⟨q.bl,0,none⟩ p f H m hSl (.inr ⟨q.bl,0,c,rfl,o8,by unfold Q5;rw[hE.gbl];rfl⟩) (by omega)) ?_
  rintro _ H2 m2 ⟨⟨B,rfl,hB⟩,hE2⟩
  have hS2:=hE.ext hE2
  have hle2:=hE2.le
  obtain⟨B0,gb0,_⟩:=hS2.gbe
  have hput1:∀ a b:Value,B12 [a] 0 [b]=[b]:=fun _ _=>rfl
  have n1:q.le≠q.be:=by omega
  have n2:q.fo≠q.be:=by omega
  have n3:q.fo≠q.le:=by omega
  simp (disch:=first | omega | assumption | exact G0 (by assumption) | exact U10 (by assumption) | exact X0 (by omega) | fail   ) only[W0,gb0,hS2.gle,hS2.gfo,hput1,Z1 _ n1,Z1 _ n2]
  refine⟨⟨c,hS2.found ?_,rfl⟩,hle2,fun i hi => ?_⟩
  .rcases hB with hB | ⟨x,s,e,x1,x2,x3⟩
   .exact .inl hB
   .exact .inr ⟨x,s,e,by omega,x2,x3⟩
  .rw[Z1 _ (by omega),Z1 _ (by omega),Z1 _ (by omega)]
   exact hE2.get i (by omega)
 | succ k ih=>
  intro p best c H m hE hnd hlt hpk htk
  have o1:=hE.o1;have o2:=hE.o2;have o3:=hE.o3;have o4:=hE.o4;have o5:=hE.o5;have o6:=hE.o6;have o7:=hE.o7;have o8:=hE.o8
  refine spec83 ?_
  unfold F83
  refine N5 (fun L H' m'=>(∃ c:Bool,L=[.bool c]/\(c=true<->¬ Lss p best))/\H=H'/\m=m') ?_ ?_
  .intro j hj
   cases best with
   | none=>
    simp (disch:=first | omega | assumption | exact G0 (by assumption) | exact U10 (by assumption) | exact X0 (by omega) | fail   ) only[W0,hE.gfo,Option.isSome_none]
    exact hj _ _ _ ⟨⟨false,rfl,fun h=>(by cases h),fun h=>absurd (fun b e=>by cases e) h⟩,rfl,rfl⟩
   | some b0=>
    simp (disch:=first | omega | assumption | exact G0 (by assumption) | exact U10 (by assumption) | exact X0 (by omega) | fail   ) only[W0,hE.gfo,hE.gle,Option.isSome_some,K79]
    refine hj _ _ _ ⟨⟨_,rfl,?_⟩,rfl,rfl⟩
    rw[decide_eq_true_eq]
    exact⟨fun h hl=>by have:=hl b0 rfl;omega,fun h=>Classical.byContradiction fun h2=>h fun b e=>by cases e;omega⟩
  rintro _ _ _ ⟨⟨cc,rfl,hcc⟩,rfl,rfl⟩
  cases cc with
  | true=>
   rw[N95 (hcc.1 rfl)]
   simp (disch:=first | omega | assumption | exact G0 (by assumption) | exact U10 (by assumption) | exact X0 (by omega) | fail   ) only[W0,Q0.val]
   exact⟨⟨c,hE,rfl⟩,fun _ _=>trivial⟩
  | false=>
  have hL:Lss p best:=Classical.byContradiction fun h=>by have:=hcc.2 h;cases this
  rw[pr,if_pos hL]
  have d1:decide ((p.length:Int)=(f:Int))=false:=by simp;omega
  have hu64:=Y86 (f:=f) (by omega) p
  have hu32:B13 f p<4294967296:=by omega
  simp (disch:=first | omega | assumption | exact G0 (by assumption) | exact U10 (by assumption) | exact X0 (by omega) | fail   ) only[W0,Q0.val,hE.gfr,d1]
  refine B1 (m:=f) (fun mm L H' m'=>∃ (v:Nat) (c':List Value),mm+v=f/\L=[.int .i64 (v:Int)]/\SE es n f q (prS f (N22 es) k p best v) c' H' m'/\c'.take p.length=c.take p.length/\m<=m'/\∀ i,i<q.fr->J0 H' i=J0 H i) ?_ ⟨0,c,by omega,rfl,hE,rfl,Nat.le_refl _,fun i _=>rfl⟩
  rintro mm ihm L H2 m2 ⟨v,c2,hmm,rfl,hS,htk2,hm2,hlow⟩ hih
  by_cases hv:v<f
  case neg=>
   obtain rfl:v=f:=by omega
   have hv':¬ (v:Int)<(v:Int):=by omega
   simp (disch:=first | omega | assumption | exact G0 (by assumption) | exact U10 (by assumption) | exact X0 (by omega) | fail   ) only[W0,hv']
   exact⟨⟨c2,hS,htk2⟩,hm2,hlow⟩
  have hv':(v:Int)<(f:Int):=by omega
  have v32:v<32:=by omega
  have hsv:=G0 (n:=v) hu32
  have hbit:=D40 f p v
  rw[decide_eq_true hv,Bool.true_and] at hbit
  by_cases hmem:v ∈ p
  .rw[decide_eq_true hmem] at hbit
   simp (config:={ maxSteps:=2000000 }) (disch:=first | omega | assumption | exact G0 (by assumption) | exact U10 (by assumption) | exact X0 (by omega) | fail  ) only[W0,hv',N13,hbit]
   refine hih (mm-1) _ _ _ (by omega) ⟨v+1,c2,by omega,by simp,?_,htk2,by omega,hlow⟩
   rw[K72,if_neg (fun a=>a.1 hmem)]
   exact hS.ext (D0.self (by omega))
  rw[decide_eq_false hmem] at hbit
  have gnl:=Q3 (C48 es n hv)
  have hms64:Q1 (adj es v) n<64:=V109 (f:=f) hn (List.mem_of_getElem? (C48 es n hv))
  have hset:=K114 (es:=es) (n:=n) (v:=v) hf hlt
  have hset64:Q1 (adj es v) n &&& B13 f p<64:=Nat.lt_of_le_of_lt Nat.and_le_left hms64
  have hms32:Q1 (adj es v) n<4294967296:=by omega
  simp (config:={ maxSteps:=2000000 }) (disch:=first | omega | assumption | exact G0 (by assumption) | exact U10 (by assumption) | exact X0 (by omega) | fail  ) only[W0,hv',N13,hbit,hS.gnr,hS.gar,gnl]
  refine R0 (X103 (f:=f) (nl:=nlF es n f) (by omega) (N93 es n f) (fun x hx=>V109 hn hx) hset64 _ _ hS.gar) ?_
  rintro _ H10 n10 ⟨⟨cc,rfl,hcq⟩,hE10⟩
  rw[hset] at hcq
  have hS10:=(hS.ext (D0.self (m:=m2+15) (by omega))).ext hE10
  have hle10:=hE10.le
  have hlow10:∀ i,i<q.fr->J0 H10 i=J0 H i:=fun i hi=>(hE10.get i (by have:=hS.o8;omega)).trans (hlow i hi)
  cases cc with
  | false=>
   simp (config:={ maxSteps:=2000000 }) (disch:=first | omega | assumption | exact G0 (by assumption) | exact U10 (by assumption) | exact X0 (by omega) | fail   ) only[W0]
   refine hih (mm-1) _ _ _ (by omega) ⟨v+1,c2,by omega,by simp,?_,htk2,by omega,hlow10⟩
   rw[K72,if_neg (fun a=>by have:=hcq.2 a.2;cases this)]
   exact hS10
  | true=>
   have hQ:=hcq.1 rfl
   have hbs:∀ (x:Int) k,K6 1 1 [.int .i64 0] [(0,.int .i64 x)] k=k [.int .i64 x]:=fun x k=>rfl
   simp (config:={ maxSteps:=2000000 }) (disch:=first | omega | assumption | exact G0 (by assumption) | exact U10 (by assumption) | exact X0 (by omega) | fail   ) only[W0,hS10.gse,hbs]
   have hE12:D0 H10 n10 (Go.Clo.hs H10 (n10+3) (some (.cells [.int .i64 (v:Int)] 0))) (n10+16):=(D0.refl _ _).new _ (by omega) (by omega)
   have g12:J0 (Go.Clo.hs H10 (n10+3) (some (.cells [.int .i64 (v:Int)] 0))) (n10+3)=some (.cells [.int .i64 (v:Int)] 0):=Z11 _ _ _
   generalize Go.Clo.hs H10 (n10+3) (some (.cells [.int .i64 (v:Int)] 0))=H12 at *
   have hS12:=hS10.ext hE12
   have hlow12:∀ i,i<q.fr->J0 H12 i=J0 H i:=fun i hi=>(hE12.get i (by have:=hS10.o8;omega)).trans (hlow10 i hi)
   have hpl:p.length<f:=by omega
   rw[Z114 hS12.gbl hS12.cl hpl (J9 (cap:=1) g12 rfl (by omega)) rfl (by omega) (by omega)]
   have hS13:=hS12.put (c':=c2.set p.length (.int .i64 (v:Int))) (by rw[List.length_set];exact hS12.cl)
   have hlow13:∀ i,i<q.fr->J0 (Go.Clo.hs H12 q.bl (some (.cells (c2.set p.length (.int .i64 (v:Int))) 0))) i=J0 H i:=fun i hi=>(Z1 _ (by omega)).trans (hlow12 i hi)
   generalize Go.Clo.hs H12 q.bl (some (.cells (c2.set p.length (.int .i64 (v:Int))) 0))=H13 at *
   have hp32:2^v<4294967296:=Y18 v32
   have hor:=Z112 (p:=p) hv
   have hsv64:B13 f p >>> v<64:=Nat.lt_of_le_of_lt (Nat.shiftRight_le _ _) hu64
   simp (config:={ maxSteps:=2000000 }) (disch:=first | omega | assumption | exact G0 (by assumption) | exact U10 (by assumption) | exact X0 (by omega) | fail  ) only[W0,hor]
   refine R0 (R44 hsv64 _ _) ?_
   rintro _ H14 n14 ⟨rfl,hE14⟩
   rw[M85 (f:=f) (by omega) hv hnd hlt hmem]
   have hS14:=hS13.ext hE14
   have hle14:=hE14.le
   have hinv:(J13 p:Int)+((p.countP fun x=>decide (v<x):Nat):Int)=(J13 (p++[v]):Int):=by rw[Y44];omega
   have hcn:(p.countP fun x=>decide (v<x))<=p.length:=List.countP_le_length
   have hil:=X88 (p.map fun (x:Nat)=>(x:Int))
   rw[List.length_map] at hil
   have hil2:J13 p<=36:=Nat.le_trans hil (Nat.mul_le_mul (show p.length<=6 by omega) (show p.length<=6 by omega))
   simp (config:={ maxSteps:=2000000 }) (disch:=first | omega | assumption | exact G0 (by assumption) | exact U10 (by assumption) | exact X0 (by omega) | fail  ) only[W0,hinv]
   have htk14:(c2.set p.length (.int .i64 (v:Int))).take (p++[v]).length=U36 (p++[v]):=by
    have hcl:=hS12.cl
    rw[List.length_append,List.length_singleton,List.take_set,List.take_add_one,List.set_append_right _ _ (by simp;omega)]
    rw[htk2,htk]
    have e1:(U36 p).length=p.length:=Y92 p
    obtain⟨z,hz⟩:∃ z,c2[p.length]? = some z:=⟨_,List.getElem?_eq_getElem (by omega)⟩
    rw[hz,e1]
    simp[U36,U4]
   have hcall:=ih (p++[v]) (prS f (N22 es) k p best v) _ H14 n14 hS14 (E50 hnd hmem) (K47 hlt hv) (by simp;omega) htk14
   rw[List.length_append,List.length_singleton] at hcall
   refine V22 hcall ?_
   rintro r H15 n15 ⟨⟨c15,hS15,htk15⟩,hm15,hlow15⟩
   simp (config:={ maxSteps:=2000000 }) (disch:=first | omega | assumption | exact G0 (by assumption) | exact U10 (by assumption) | exact X0 (by omega) | fail   ) only[W0,hS14.gse,hS13.gse]
   refine hih (mm-1) _ _ _ (by omega) ⟨v+1,c15,by omega,by simp,?_,?_,by omega,fun i hi => ?_⟩
   .rw[K72,if_pos ⟨hmem,hQ⟩];exact hS15
   .have h1:=congrArg (List.take p.length) htk15
    rw[List.take_take,List.take_take,Nat.min_eq_left (by omega),List.take_set_of_le (by omega)] at h1
    rw[h1];exact htk2
   .rw[hlow15 i hi,hE14.get i (by have:=hS13.o8;omega)];exact hlow13 i hi
end
theorem K112{n f:Nat}(hn:n<=6)(hf:f<=n)(A:Option Addr)(es:List Nat)(cap:Nat)(ak:∀ e ∈ es,e<2^n)(b8:es.length<=8)(H:Y0)(nx:Nat)(hS:Sl H nx A (K12 es)):
  Q2 gQ 50 [gv (n:Int) A es.length cap,.int .i64 (f:Int)] H nx fun r H' nx'=>(∃ B,r = .tuple ⟨[.slice B ((pr f (N22 es) f [] none).getD []).length ((pr f (N22 es) f [] none).getD []).length,.int .i64 (K79 (pr f (N22 es) f [] none):Int),.bool (pr f (N22 es) f [] none).isSome]⟩/\Sl H' nx' B (U36 ((pr f (N22 es) f [] none).getD [])))/\D0 H nx H' nx':=by
 have az:N3 n es=0:=V11 O0 O0 fun i e he=>ak e (aH he)
 have ab:∀ a b:Value,B12 [a] 0 [b]=[b]:=fun _ _=>rfl
 refine spec50 ?_;unfold F50;simp only[gv];have ah:D0 H nx (hs H nx (some (.cells [.int .i64 (n:Int),.slice A es.length cap] 0))) (nx+1):=(D0.refl H nx).nw _;have g1:J0 (hs H nx (some (.cells [.int .i64 (n:Int),.slice A es.length cap] 0))) nx=some (.cells [.int .i64 (n:Int),.slice A es.length cap] 0):=Z11 _ _ _;simp(config:={ maxSteps:=2000000 }) (disch:=omega)only[W0,Z0,Q0.val,ab];generalize hs H nx (some (.cells [.int .i64 (n:Int),.slice A es.length cap] 0))=H1 at *
 have aa:D0 H1 (nx+1) (hs H1 (nx+1) (some (.cells [.int .i64 (f:Int)] 0))) (nx+1+1):=(D0.refl _ _).nw _;have g2:J0 (hs H1 (nx+1) (some (.cells [.int .i64 (f:Int)] 0))) (nx+1)=some (.cells [.int .i64 (f:Int)] 0):=Z11 _ _ _;have k2:=(aa.gt nx).trans g1;generalize hs H1 (nx+1) (some (.cells [.int .i64 (f:Int)] 0))=H2 at *
 have a3:=ah.trans aa;rw[M27 O0,C23];simp only[eH,Nat.reduceAdd];have Z:D0 H2 (nx+2) (hs H2 (nx+2) (some (.cells (K12 (aF f 0)) 0))) (nx+3):=(D0.refl _ _).nw _;have g3:J0 (hs H2 (nx+2) (some (.cells (K12 (aF f 0)) 0))) (nx+2)=some (.cells (K12 (aF f 0)) 0):=Z11 _ _ _;have k3:=(Z.gt nx).trans k2;have f3:=(Z.gt (nx+1)).trans g2;generalize hs H2 (nx+2) (some (.cells (K12 (aF f 0)) 0))=H3 at *
 have a7:=a3.trans Z;have U:D0 H3 (nx+3) (hs (hs H3 (nx+3) (some (.cells [.slice none 0 0] 0))) (nx+3) (some (.cells [.slice (some ⟨nx+2,0,none⟩) f f] 0))) (nx+4):=((D0.refl _ _).nw _ (m:=nx+4)).h0;have g4:J0 (hs (hs H3 (nx+3) (some (.cells [.slice none 0 0] 0))) (nx+3) (some (.cells [.slice (some ⟨nx+2,0,none⟩) f f] 0))) (nx+3)=some (.cells [.slice (some ⟨nx+2,0,none⟩) f f] 0):=Z11 _ _ _;have k4:=(U.gt nx).trans k3;have f4:=(U.gt (nx+1)).trans f3;have a4:=(U.gt (nx+2)).trans g3;generalize hs (hs H3 (nx+3) (some (.cells [.slice none 0 0] 0))) (nx+3) (some (.cells [.slice (some ⟨nx+2,0,none⟩) f f] 0))=H4 at *
 have a5:=a7.trans U;refine B1 (m:=f) (fun mm L H' m'=>∃(v:Nat) (l:List Nat),mm+v=f/\L=[.int .i64 (v:Int)]/\l.length=f/\(∀ u,u<v->l[u]? = some (Q1 (adj es u) n))/\J0 H' (nx+2)=some (.cells (K12 l) 0)/\J0 H' nx=some (.cells [.int .i64 (n:Int),.slice A es.length cap] 0)/\J0 H' (nx+1)=some (.cells [.int .i64 (f:Int)] 0)/\J0 H' (nx+3)=some (.cells [.slice (some ⟨nx+2,0,none⟩) f f] 0)/\D0 H nx H' m'/\nx+4<=m') ?_
  ⟨0,aF f 0,O0,rfl,O2,fun u h=>O0,a4,k4,f4,g4,a5,aD _⟩
 clear g4 k4 f4 a4 a5 U a7 f3 k3 g3 Z a3 k2 g2 aa g1 ah;rintro mm b5 L H5 m5 ⟨v,l,bd,rfl,hl,a6,ha,hk,a1,a0,hE,bc⟩ av
 by_cases hv:v<f
 .have a9:(v:Int)<(f:Int):=O0
  simp(config:={ maxSteps:=2000000 }) (disch:=omega)only[W0,a9,a0,hk,C13];refine R0 (U61 (n:=n) (v:=v) O0 O0 A es cap H5 (m5+7) (hS.ext (hE.trans (D0.self (m:=m5+7) O0))) ak O0 az) ?_;rintro _ H6 m6 ⟨rfl,O⟩;have b4:=O.le;have ap:=(O.gt (nx+2)).trans ha;have ao:=(O.gt nx).trans hk;have ag:=(O.gt (nx+1)).trans a1;have a2:=(O.gt (nx+3)).trans a0;have ai:v<l.length:=O0;have al:v+1<=(K12 l).length:=by rw[E1];omega
  simp(config:={ maxSteps:=2000000 })only[W0,a2,ap,al,V10 ai];refine av (mm-1) _ _ _ O0 ⟨v+1,l.set v (Q1 (adj es v) n),O0,O2,by rw[dO];exact hl,fun u hu => ?_,Z11 _ _ _,by rw[gN _];exact ao,by rw[gN _];exact ag,by rw[gN _];exact a2,(hE.trans (D0.trans (D0.self (m:=m5+7) O0) O)).h0,O0⟩;rw[cQ]
  by_cases e:v=u
  .subst e;rw[if_pos rfl,if_pos ai]
  .rw[if_neg e];exact a6 u O0
 have a9:¬ (v:Int)<(f:Int):=O0;have ay:l=nlF es n f:=by
  apply dH;intro u
  by_cases hu:u<f
  .rw[a6 u O0,C48 es n hu]
  .rw[aT O0,aT (by rw[N93];omega)]
 subst ay;simp(config:={ maxSteps:=2000000 }) (disch:=omega)only[W0,a9];have q1:D0 H5 m5 (hs H5 m5 (some (.cells [.slice none 0 0] 0))) (m5+1):=(D0.refl _ _).nw _;have b1:J0 (hs H5 m5 (some (.cells [.slice none 0 0] 0))) m5=some (.cells [.slice none 0 0] 0):=Z11 _ _ _;generalize hs H5 m5 (some (.cells [.slice none 0 0] 0))=H6 at *
 have q2:D0 H6 (m5+1) (hs H6 (m5+1) (some (.cells [.int .i64 0] 0))) (m5+1+1):=(D0.refl _ _).nw _;have b2:J0 (hs H6 (m5+1) (some (.cells [.int .i64 0] 0))) (m5+1)=some (.cells [.int .i64 0] 0):=Z11 _ _ _;generalize hs H6 (m5+1) (some (.cells [.int .i64 0] 0))=H7 at *
 have q3:D0 H7 (m5+1+1) (hs H7 (m5+1+1) (some (.cells [.bool false] 0))) (m5+1+1+1):=(D0.refl _ _).nw _;have b3:J0 (hs H7 (m5+1+1) (some (.cells [.bool false] 0))) (m5+1+1)=some (.cells [.bool false] 0):=Z11 _ _ _;have au:=(q3.gt (m5+1)).trans b2;generalize hs H7 (m5+1+1) (some (.cells [.bool false] 0))=H8 at *
 simp(config:={ maxSteps:=2000000 })only[W0,a1];rw[J112 O0];have aj:D0 H5 m5 H8 (m5+3):=(q1.trans q2).trans q3;have aw:J0 H8 m5=some (.cells [.slice none 0 0] 0):=(q3.gt m5).trans ((q2.gt m5).trans b1);clear b1 b2 b3 au q1 q2 q3;obtain⟨fv,ac⟩:∃ fv:Value,fv = .func (.func 83) ⟨[]⟩ ⟨[.pointer (some ⟨m5+2,0,none⟩),.pointer (some ⟨m5+1,0,none⟩),.pointer (some ⟨nx+1,0,none⟩),.pointer (some ⟨m5,0,none⟩),.pointer (some ⟨nx+3,0,none⟩),.pointer (some ⟨m5+3,0,none⟩)]⟩:=⟨_,rfl⟩
 obtain⟨H9,h9⟩:∃ H9,H9=hs (hs H8 (m5+1) (some (.cells [.int .i64 0] 0))) (m5+2) (some (.cells [.bool false] 0)):=⟨_,rfl⟩
 rw[<- h9];obtain⟨a8,Q⟩:∃ a8,a8=hs (hs H9 (m5+3) (some (.cells [.nilFunc] 0))) (m5+3) (some (.cells [fv] 0)):=⟨_,rfl⟩
 obtain⟨E,J⟩:∃ E,E=hs a8 (m5+6) (some (.cells (U4 (aF f 0)) 0)):=⟨_,rfl⟩
 rw[<- ac,<- Q,<- J];have hX:D0 H5 m5 E (m5+8):=by
  rw[J,Q,h9];exact(((((aj.h0).h0).h0).h0).h0).more O0
 have an:SE es n f ⟨nx+1,nx+2,nx+3,m5,m5+1,m5+2,m5+3,m5+6⟩ none (U4 (aF f 0)) E (m5+8):=by
  refine⟨show nx+1<nx+2 by omega,show nx+2<nx+3 by omega,show nx+3<m5 by omega,show m5<m5+1 by omega,show m5+1<m5+2 by omega,show m5+2<m5+3 by omega,show m5+3<m5+6 by omega,show m5+6<m5+8 by omega,
   (hX.gt (nx+1)).trans a1,(hX.gt (nx+2)).trans ha,(hX.gt (nx+3)).trans a0,⟨none,?_,.inl rfl⟩,?_,?_,?_,?_,by rw[X9];simp⟩
  .show J0 E m5=_
   rw[J,Q,h9,gN _,gN _,gN _,gN _,gN _];exact aw
  .show J0 E (m5+1)=_
   rw[J,Q,h9,gN _,gN _,gN _,gN _,Z11];rfl
  .show J0 E (m5+2)=_
   rw[J,Q,h9,gN _,gN _,gN _,Z11];rfl
  .show J0 E (m5+3)=_
   rw[J,Q,gN _,Z11,ac]
  .show J0 E (m5+6)=_
   rw[J,Z11]
 have W:=Y112 hn hf f [] none (U4 (aF f 0)) E (m5+8) an List.nodup_nil (fun x h=>by simp at h) O2 rfl;rw[K80,show J13 []=0 from rfl,List.length_nil] at W;rw[ac];refine V22 W ?_;rintro r ad ba ⟨⟨c',V,_⟩,aq,ae⟩;obtain⟨B,gb,hB⟩:=V.gbe;have gb:J0 ad m5=some (.cells [.slice B ((pr f (N22 es) f [] none).getD []).length ((pr f (N22 es) f [] none).getD []).length] 0):=gb;have gle:J0 ad (m5+1)=some (.cells [.int .i64 (K79 (pr f (N22 es) f [] none):Int)] 0):=V.gle;have gfo:J0 ad (m5+2)=some (.cells [.bool (pr f (N22 es) f [] none).isSome] 0):=V.gfo;simp(config:={ maxSteps:=2000000 })only[W0,gb,gle,gfo];have ax:=hE.trans hX;refine⟨⟨B,rfl,?_⟩,⟨O0,fun i hi=>(ae i (show i<nx+1 by omega)).trans (ax.get i hi)⟩⟩;rcases hB with hB | ⟨x,s,rfl,x1,x2,x3⟩
 .rw[hB]
  exact fun i v hv=>by simp[U36,U4] at hv
 .exact fun i u hu=>⟨x,0,_,rfl,O0,by unfold Q5;rw[x3];rfl,by rw[cF];exact hu⟩
section
variable {c e i v:Nat} {l:List Bool} {rest:List Nat}
theorem U106{e:Nat}(H:Y0)(nx:Nat):Q2 gQ 54 [.int .u32 (e:Int)] H nx fun v H' nx'=>v = .bool (decide (e≠0))/\H=H'/\nx=nx':=by
 refine spec54 ?_;unfold F54;simp only[W0]
theorem U115(A:Option Addr)(es:List Nat)(cap:Nat)(H:Y0)(nx:Nat)(hS:Sl H nx A (K12 es))(hl:es.length<=64):
  Q2 gQ 88 [.slice A es.length cap,.func (.func 54) ⟨[]⟩ ⟨[]⟩] H nx fun v H' nx'=>(∃ i:Int,v = .int .i64 i/\(0<=i<->∃ e ∈ es,e≠0))/\H=H'/\nx=nx':=by
 refine spec88 ?_;unfold F88;simp only[W0];refine B1 (m:=es.length) (fun m L H' nx'=>∃ i:Nat,m+i=es.length/\L=[.int .i64 (i:Int)]/\(∀ e ∈ es.take i,e=0)/\H=H'/\nx=nx') ?_ ⟨0,rfl,rfl,O2,rfl,rfl⟩;rintro m ih L _ _ ⟨i,hm,rfl,J,rfl,rfl⟩ U;simp(disch:=omega)only[W0]
 by_cases hi:i<es.length
 .have E:(i:Int)<(es.length:Int):=O0
  obtain⟨e,he⟩:∃ e,es[i]? = some e:=⟨_,aE hi⟩
  obtain⟨A,o,row,rfl,_,Q,O⟩:=hS.open (i:=i) (by rw[E1];omega);simp(disch:=omega)only[W0,E,X3 Q,O _ _ (Q3 he)];refine V22 (U106 _ _) ?_;rintro _ _ _ ⟨rfl,rfl,rfl⟩
  by_cases h0:e=0
  .have d:decide (e≠0)=false:=by simp[h0]
   simp only[W0,d];refine U (m-1) _ _ _ O0 ⟨i+1,O0,O2,fun x hx => ?_,rfl,rfl⟩;rw[C7 he] at hx;simp only[dN,dJ] at hx;rcases hx with hx | rfl
   .exact J x hx
   .exact h0
  .have d:decide (e≠0)=true:=by simp[h0]
   simp only[W0,d];exact⟨i,rfl,fun _=>⟨e,aH he,h0⟩,fun _=>O0⟩
 .have E:¬ (i:Int)<(es.length:Int):=O0
  simp only[W0,E];rw[D23 hi] at J;exact⟨-1,rfl,fun h=>O0,fun⟨e,he,h0⟩=>absurd (J e he) h0⟩
theorem X115(A:Option Addr)(es:List Nat)(cap:Nat)(H:Y0)(nx:Nat)(hS:Sl H nx A (K12 es))(hl:es.length<=64):
  Q2 gQ 53 [.slice A es.length cap,.func (.func 54) ⟨[]⟩ ⟨[]⟩] H nx fun v H' nx'=>(∃ c:Bool,v = .bool c/\(c=true<->∃ e ∈ es,e≠0))/\H=H'/\nx=nx':=by
 refine spec53 ?_;unfold F53;refine R0 (U115 A es cap H nx hS hl) ?_;rintro _ _ _ ⟨⟨i,rfl,hi⟩,rfl,rfl⟩;simp only[W0];exact⟨_,rfl,by rw[<- hi,decide_eq_true_eq]⟩
def V19(l:List Bool):List Value:=l.map fun b=>dU b
theorem J81{b:Bool}(h:l[i]? = some b):(V19 l)[i]? = some (.bool b):=by simp[V19,h]
theorem D38(l:List Bool):(V19 l).length=l.length:=by simp[V19]
def G35(rest:List Nat)(E:List Bool)(e i:Nat):Prop:=e≠i/\E[e]? = some false/\E[i]? = some false/\∃ x y,rest[e]? = some x/\rest[i]? = some y/\Z2 x y=0
theorem Q86(A B:Option Addr)(rest:List Nat)(E:List Bool)(a2 a5:Nat)(H:Y0)(nx:Nat)(hA:Sl H nx A (K12 rest))(hB:Sl H nx B (V19 E))(aj:E.length=rest.length)(hl:rest.length<=64)(a7:U14 rest):
  Q2 gQ 86 [.slice A rest.length a2,.slice B E.length a5] H nx fun r H' nx'=>D0 H nx H' nx' /\
   ((∃ e i:Nat,G35 rest E e i/\r = .tuple ⟨[.agg ⟨[.int .i64 (e:Int),.int .i64 (i:Int),.int .i64 (-1)]⟩,.bool true]⟩) \/
    ((∀ e i:Nat,¬ G35 rest E e i)/\r = .tuple ⟨[.agg ⟨[.int .i64 0,.int .i64 0,.int .i64 0]⟩,.bool false]⟩)):=by
 refine spec86 ?_;unfold F86;have W:D0 H nx (hs H nx (some (.cells [.int .i64 0,.int .i64 0,.int .i64 0] 0))) (nx+1):=(D0.refl H nx).nw _;have a9:∀ kk,U11 [.int .i64 0,.int .i64 0,.int .i64 0] [(0,1),(1,1),(2,1)] [] kk=kk (.agg ⟨[.int .i64 0,.int .i64 0,.int .i64 0]⟩):=fun _=>rfl
 have ad:∀(a b:Int) kk,U11 [.int .i64 0,.int .i64 0,.int .i64 0] [(0,1),(1,1),(2,1)] [(0,.int .i64 a),(1,.int .i64 b),(2,.int .i64 (-1))] kk=kk (.agg ⟨[.int .i64 a,.int .i64 b,.int .i64 (-1)]⟩):=fun _ _ _=>rfl
 simp(config:={ maxSteps:=2000000 })only[W0,Q0.val];generalize hK:hs H nx (some (.cells [.int .i64 0,.int .i64 0,.int .i64 0] 0))=K at W;have kG:J0 K nx=some (.cells [.int .i64 0,.int .i64 0,.int .i64 0] 0):=by rw[<- hK,Z11]
 refine B1 (m:=rest.length) (fun m L H' nx'=>∃ i:Nat,m+i=rest.length/\L=[.int .i64 (i:Int)]/\(∀ e j:Nat,e<i->¬ G35 rest E e j)/\K=H'/\nx+1<=nx') ?_ ⟨0,rfl,rfl,fun e j h=>O0,rfl,aD _⟩;rintro m ih L _ nx2 ⟨e,hm,rfl,a6,rfl,a4⟩ a8;simp(config:={ maxSteps:=2000000 }) (disch:=omega)only[W0]
 by_cases he:e<rest.length
 case neg=>
  have a0:¬ (e:Int)<(rest.length:Int):=O0;simp(config:={ maxSteps:=2000000 })only[W0,Z0,Nat.reduceAdd,a0,a9,kG,D7,Y12];refine⟨(W.more a4).h0,.inr fun a b => ?_⟩
  by_cases ha:a<e
  .exact a6 a b ha
  .rintro⟨_,h,_⟩
   have:=N12 h;omega
 have a0:(e:Int)<(rest.length:Int):=O0;simp(config:={ maxSteps:=2000000 })only[W0,a0];refine B1 (m:=rest.length) (fun m L H' nx'=>∃ i:Nat,m+i=rest.length/\L=[.int .i64 (i:Int)]/\(∀ j:Nat,j<i->¬ G35 rest E e j)/\K=H'/\nx+1<=nx') ?_ ⟨0,rfl,rfl,fun j h=>O0,rfl,a4⟩;rintro m3 ae L3 _ an ⟨i,al,rfl,Z,rfl,aa⟩ a3;simp(config:={ maxSteps:=2000000 }) (disch:=omega)only[W0]
 by_cases hi:i<rest.length
 case neg=>
  have O:¬ (i:Int)<(rest.length:Int):=O0;simp(config:={ maxSteps:=2000000 })only[W0,O];refine a8 (m-1) _ _ _ O0 ⟨e+1,O0,O2,fun a b ha => ?_,rfl,aa⟩
  by_cases ac:a=e
  .subst ac
   by_cases hb:b<i
   .exact Z b hb
   .rintro⟨_,_,h,_⟩
    have:=N12 h;omega
  .exact a6 a b O0
 have O:(i:Int)<(rest.length:Int):=O0;obtain⟨x,hx⟩:∃ x,rest[e]? = some x:=⟨_,aE he⟩
 obtain⟨y,hy⟩:∃ y,rest[i]? = some y:=⟨_,aE hi⟩
 obtain⟨p,hp⟩:∃ p,E[e]? = some p:=⟨_,aE O0⟩
 obtain⟨q,hq⟩:∃ q,E[i]? = some q:=⟨_,aE O0⟩
 obtain⟨A,oA,V63,rfl,_,V,Q⟩:=(hA.ext W).open (i:=i) (by rw[E1];omega);obtain⟨B,oB,ah,rfl,_,J,U⟩:=(hB.ext W).open (i:=i) (by rw[D38];omega);have gx:=Q _ _ (Q3 hx);have gy:=Q _ _ (Q3 hy);have gp:=U _ _ (J81 hp);have gq:=U _ _ (J81 hq);have ak:=a7.get hx;have ai:=a7.get hy;have next:¬ G35 rest E e i->∀ nx',nx+1<=nx'->ae [.int .i64 ((i:Int)+1)] K nx':=fun h nx' ag=>
  a3 (m3-1) _ _ _ O0 ⟨i+1,O0,O2,fun j hj=>by
   by_cases ab:j=i
   .subst ab;exact h
   .exact Z j O0,rfl,ag⟩
 by_cases a1:e=i
 .have d1:decide ((e:Int)≠(i:Int))=false:=by simp[a1]
  simp(config:={ maxSteps:=2000000 })only[W0,O,N13,d1];exact next (fun h=>h.1 a1) _ O0
 have d1:decide ((e:Int)≠(i:Int))=true:=by simp;omega
 cases p with
 | true=>
  simp(config:={ maxSteps:=2000000 }) (disch:=omega)only[W0,O,N13,d1,X3 J,gp];exact next (fun h=>by have:=h.2.1;rw[hp] at this;cases this) _ O0
 | false=>
  cases q with
  | true=>
   simp(config:={ maxSteps:=2000000 }) (disch:=omega)only[W0,O,N13,d1,X3 J,gp,gq];exact next (fun h=>by have:=h.2.2.1;rw[hq] at this;cases this) _ O0
  | false=>
   by_cases hz:Z2 x y=0
   .have d2:decide (Z2 x y=0)=true:=by simp[hz]
    simp(config:={ maxSteps:=2000000 }) (disch:=omega)only[W0,Z0,Nat.reduceAdd,O,N13,d1,X3 J,X3 V,gp,gq,gx,gy,d2,ad,kG,D7,Y12];exact⟨(W.more O0).h0,.inl ⟨e,i,⟨a1,hp,hq,x,y,hx,hy,hz⟩,rfl⟩⟩
   .have d2:decide (Z2 x y=0)=false:=by simp[hz]
    simp(config:={ maxSteps:=2000000 }) (disch:=omega)only[W0,O,N13,d1,X3 J,X3 V,gp,gq,gx,gy,d2];refine next (fun h => ?_) _ O0;obtain⟨_,_,_,x',y',h1,h2,h3⟩:=h;rw[hx] at h1;rw[hy] at h2;cases h1;cases h2;exact hz h3
def J14(rest:List Nat)(v i:Nat):Bool:=match rest[i]? with
 | some x=>x.testBit v
 | none=>false
def Z54(rest:List Nat)(v e:Nat):Prop:=J14 rest v e=true/\∀ i,i≠e->J14 rest v i=false
def Y79(rest:List Nat)(v i c e:Nat):Prop:=
 (c=0/\∀ j,j<i->J14 rest v j=false)\/(c=1/\e<i/\J14 rest v e=true/\∀ j,j<i->j≠e->J14 rest v j=false)\/(2<=c/\∃ a b,a≠b/\J14 rest v a=true/\J14 rest v b=true)
theorem C114(h:Y79 rest v rest.length c e):(c=1/\Z54 rest v e)\/(c≠1/\∀ e',¬ Z54 rest v e'):=by
 have E:∀ j,¬ j<rest.length->J14 rest v j=false:=fun j hj=>by unfold J14;rw[aT O0]
 rcases h with ⟨h1,h2⟩ | ⟨h1,_,h3,h4⟩ | ⟨h1,a,b,O,ha,hb⟩
 .refine .inr ⟨O0,fun e' ⟨h5,_⟩ => ?_⟩
  by_cases hj:e'<rest.length
  .rw[h2 e' hj] at h5;cases h5
  .rw[E e' hj] at h5;cases h5
 .refine .inl ⟨h1,h3,fun i hi => ?_⟩
  by_cases hj:i<rest.length
  .exact h4 i hj hi
  .exact E i hj
 .refine .inr ⟨O0,fun e' ⟨_,h6⟩ => ?_⟩
  by_cases J:a=e'
  .rw[h6 b O0] at hb;cases hb
  .rw[h6 a J] at ha;cases ha
theorem B113(h:Y79 rest v i c e)(hb:J14 rest v i=true):Y79 rest v (i+1) (c+1) i:=by
 rcases h with ⟨h1,h2⟩ | ⟨h1,h2,h3,h4⟩ | ⟨h1,h2⟩
 .exact .inr (.inl ⟨O0,O0,hb,fun j hj E=>h2 j O0⟩)
 .exact .inr (.inr ⟨O0,e,i,O0,h3,hb⟩)
 .exact .inr (.inr ⟨O0,h2⟩)
theorem G115(h:Y79 rest v i c e)(hb:J14 rest v i=false):Y79 rest v (i+1) c e:=by
 rcases h with ⟨h1,h2⟩ | ⟨h1,h2,h3,h4⟩ | ⟨h1,h2⟩
 .refine .inl ⟨h1,fun j hj => ?_⟩
  by_cases E:j=i
  .subst E;exact hb
  .exact h2 j O0
 .refine .inr (.inl ⟨h1,O0,h3,fun j hj J => ?_⟩)
  by_cases E:j=i
  .subst E;exact hb
  .exact h4 j O0 J
 .exact .inr (.inr ⟨h1,h2⟩)
theorem K83{n:Nat}(hn:n<=32)(A:Option Addr)(rest:List Nat)(a0:Nat)(H:Y0)(nx:Nat)(hA:Sl H nx A (K12 rest))(hl:rest.length<=64)(a9:U14 rest):
  Q2 gQ 87 [.int .i64 (n:Int),.slice A rest.length a0] H nx fun r H' nx'=>D0 H nx H' nx' /\
   ((∃ v e:Nat,v<n/\Z54 rest v e/\r = .tuple ⟨[.agg ⟨[.int .i64 (e:Int),.int .i64 (-1),.int .i64 (v:Int)]⟩,.bool true]⟩) \/
    ((∀ v e:Nat,v<n->¬ Z54 rest v e)/\r = .tuple ⟨[.agg ⟨[.int .i64 0,.int .i64 0,.int .i64 0]⟩,.bool false]⟩)):=by
 refine spec87 ?_;unfold F87;have Q:D0 H nx (hs H nx (some (.cells [.int .i64 0,.int .i64 0,.int .i64 0] 0))) (nx+1):=(D0.refl H nx).nw _;have a8:∀ kk,U11 [.int .i64 0,.int .i64 0,.int .i64 0] [(0,1),(1,1),(2,1)] [] kk=kk (.agg ⟨[.int .i64 0,.int .i64 0,.int .i64 0]⟩):=fun _=>rfl
 have a7:∀(a b:Int) kk,U11 [.int .i64 0,.int .i64 0,.int .i64 0] [(0,1),(1,1),(2,1)] [(0,.int .i64 a),(1,.int .i64 (-1)),(2,.int .i64 b)] kk=kk (.agg ⟨[.int .i64 a,.int .i64 (-1),.int .i64 b]⟩):=fun _ _ _=>rfl
 simp(config:={ maxSteps:=2000000 })only[W0,Q0.val];generalize hK:hs H nx (some (.cells [.int .i64 0,.int .i64 0,.int .i64 0] 0))=K at Q;have kG:J0 K nx=some (.cells [.int .i64 0,.int .i64 0,.int .i64 0] 0):=by rw[<- hK,Z11]
 refine B1 (m:=n) (fun m L H' nx'=>∃ i:Nat,m+i=n/\L=[.int .i64 (i:Int)]/\(∀ v e:Nat,v<i->¬ Z54 rest v e)/\K=H'/\nx+1<=nx') ?_ ⟨0,rfl,rfl,fun e j h=>O0,rfl,aD _⟩;rintro m ih L _ nx2 ⟨v,hm,rfl,a2,rfl,a1⟩ a6;simp(config:={ maxSteps:=2000000 }) (disch:=omega)only[W0]
 by_cases hv:v<n
 case neg=>
  have Z:¬ (v:Int)<(n:Int):=O0;simp(config:={ maxSteps:=2000000 })only[W0,Z0,Nat.reduceAdd,Z,a8,kG,D7,Y12];exact⟨(Q.more a1).h0,.inr fun a b ha=>a2 a b O0⟩
 have Z:(v:Int)<(n:Int):=O0;simp(config:={ maxSteps:=2000000 })only[W0,Z];refine B1 (m:=rest.length) (fun m L H' nx'=>∃ i c e:Nat,m+i=rest.length/\c<=i/\L=[.int .i64 (c:Int),.int .i64 (e:Int),.int .i64 (i:Int)]/\Y79 rest v i c e/\K=H'/\nx+1<=nx') ?_ ⟨0,0,0,rfl,aD _,rfl,.inl ⟨rfl,fun j h=>O0⟩,rfl,a1⟩;rintro m3 ad L3 _ ab ⟨i,c,e,ae,aa,rfl,O,rfl,a3⟩ U;simp(config:={ maxSteps:=2000000 }) (disch:=omega)only[W0]
 by_cases hi:i<rest.length
 case neg=>
  have E:¬ (i:Int)<(rest.length:Int):=O0;have:i=rest.length:=O0;subst this;rcases C114 O with ⟨h1,h2⟩ | ⟨h1,h2⟩
  .have d1:decide ((c:Int)=1)=true:=by simp;omega
   simp(config:={ maxSteps:=2000000 })only[W0,Z0,Nat.reduceAdd,E,d1,a7,kG,D7,Y12];exact⟨(Q.more a3).h0,.inl ⟨v,e,hv,h2,rfl⟩⟩
  .have d1:decide ((c:Int)=1)=false:=by simp;omega
   simp(config:={ maxSteps:=2000000 })only[W0,E,d1];refine a6 (m-1) _ _ _ O0 ⟨v+1,O0,O2,fun a b ha => ?_,rfl,a3⟩
   by_cases a5:a=v
   .subst a5;exact h2 b
   .exact a2 a b O0
 have E:(i:Int)<(rest.length:Int):=O0;obtain⟨x,hx⟩:∃ x,rest[i]? = some x:=⟨_,aE hi⟩
 obtain⟨A,oA,V63,rfl,_,J,W⟩:=(hA.ext Q).open (i:=i) (by rw[E1];omega);have gx:=W _ _ (Q3 hx);have a4:=a9.get hx;have ac:=G0 (n:=v) a4;have V:J14 rest v i=x.testBit v:=by unfold J14;rw[hx]
 cases hb:x.testBit v with
 | true=>
  simp(config:={ maxSteps:=2000000 }) (disch:=omega)only[W0,E,N13,X3 J,gx,hb];exact U (m3-1) _ _ _ O0 ⟨i+1,c+1,i,O0,O0,O2,B113 O (by rw[V,hb]),rfl,O0⟩
 | false=>
  simp(config:={ maxSteps:=2000000 }) (disch:=omega)only[W0,E,N13,X3 J,gx,hb];exact U (m3-1) _ _ _ O0 ⟨i+1,c,e,O0,O0,O2,G115 O (by rw[V,hb]),rfl,O0⟩
theorem X112(h:J14 rest v i=true):i<rest.length:=by
 unfold J14 at h
 split at h
 .rename_i hx;exact N12 hx
 .cases h
theorem G69:∀ n:Nat,Q19 [.bool false] n=V19 (aF n false)
 | 0=>rfl
 | n+1=>by rw[Q19,G69 n];rfl
theorem X106{x:Bool}(h:i<l.length):B12 (V19 l) i [.bool x]=V19 (l.set i x):=by rw[N31 (by rw[D38];exact h)];simp[V19,List.map_set]
theorem Q106{l:List Nat}(h:i<l.length):B12 (K12 l) i [.int .u32 0]=K12 (l.set i 0):=V10 (x:=0) h
end
section
variable {H:Y0} {M es:List Nat} {c:List Value} {e i n nx v x:Nat} {g:List Bool}
theorem R79:∀{l:List Nat}{i x y:Nat},l[i]? = some x->(l.set i y).sum+x=l.sum+y
 | [],i,x,y,h=>by simp at h
 | a :: l,0,x,y,h=>by
  simp at h;subst h;simp;omega
 | a :: l,i+1,x,y,h=>by
  have:=R79 (l:=l) (i:=i) (y:=y) (by simpa using h);simp;omega
theorem G22:∀{g:List Bool}{i:Nat},g[i]? = some false->(g.set i true).count false+1=g.count false
 | [],i,h=>by simp at h
 | a :: l,0,h=>by
  simp at h;subst h;simp
 | a :: l,i+1,h=>by
  have:=G22 (g:=l) (i:=i) (by simpa using h);rw[List.set_cons_succ,List.count_cons,List.count_cons];omega
theorem E111:∀{l:List Nat}{b:Nat},(∀ x ∈ l,x<=b)->l.sum<=l.length*b
 | [],b,_=>O2
 | a :: l,b,h=>by
  have h1:=h a O2;have h2:=E111 (l:=l) (b:=b) fun x hx=>h x (by simp[hx])
  rw[List.sum_cons,cV,Nat.succ_mul];omega
theorem B81{M:List Nat}{e y B:Nat}(h:∀ x ∈ M,x<B)(hy:y<B):∀ x ∈ M.set e y,x<B:=fun x hx=>by
 rcases List.mem_or_eq_of_mem_set hx with h1 | h1
 .exact h x h1
 .omega
structure RdS (es:List Nat) (n:Nat) (M:List Nat) (g:List Bool):Prop where
 pe:PE M<->PE es
 lm:M.length=es.length
 lg:g.length=es.length
 lt:∀ x ∈ M,x<2^n
 gone:∀ i:Nat,g[i]? = some true->M[i]? = some 0
theorem RdS.abs (h:RdS es n M g) {f:Nat} (ha:G35 M g e f):RdS es n (M.set e 0) (g.set e true)/\(M.set e 0).sum+(g.set e true).count false<M.sum+g.count false:=by
 obtain⟨h1,h2,h3,x,y,h4,h5,h6⟩:=ha
 have h7:∀ w,x.testBit w=true->y.testBit w=true:=fun w hw=>by
  have:=N1 x y w
  rw[h6,Nat.zero_testBit,hw] at this
  cases hy:y.testBit w with
  | true=>rfl
  | false=>rw[hy] at this;cases this
 refine⟨⟨(G106 h1 h4 h5 h7).trans h.pe,by rw[List.length_set];exact h.lm,by rw[List.length_set];exact h.lg,B81 h.lt (Nat.pow_pos (by omega)),fun i hi => ?_⟩,?_⟩
 .by_cases e1:e=i
  .subst e1
   rw[List.getElem?_set_self (List.getElem?_eq_some_iff.1 h4).1]
  .rw[List.getElem?_set_ne e1] at hi
   rw[List.getElem?_set_ne e1];exact h.gone i hi
 .have:=R79 (y:=0) h4
  have:=G22 h2
  omega
theorem R69(h:M[i]? = some x):J14 M v i=x.testBit v:=by unfold J14;rw[h]
theorem RdS.iso(h:RdS es n M g)(hx:M[e]? = some x)(ha:Z54 M v e):RdS es n (M.set e (Z2 x (2^v))) g/\(M.set e (Z2 x (2^v))).sum+g.count false<M.sum+g.count false:=by
 have hv:x.testBit v=true:=(R69 hx).symm.trans ha.1;have U:=Q41 hv;have Q:=h.lt x (aH hx);refine⟨⟨(W115 hx hv (fun i z hz O=>aI fun J => ?_) fun w => ?_).trans h.pe,by rw[dO];exact h.lm,h.lg,B81 h.lt O0,fun i hi => ?_⟩,?_⟩
 .have:=ha.2 i J
  rw[R69 hz,O] at this;cases this
 .rw[N1,aR]
  by_cases hw:v=w
  .subst hw;simp
  .have E:¬ w=v:=fun e=>hw e.symm
   simp[hw,E]
 .have:=h.gone i hi
  by_cases e1:e=i
  .subst e1;rw[hx] at this;cases this;simp at hv
  .rw[bL e1];exact this
 .have:=R79 (y:=Z2 x (2^v)) hx
  omega
theorem RdS.stuck {es:List Nat} {n:Nat} {M:List Nat} (h:RdS es n M g) (h1:∀ e f:Nat,¬ G35 M g e f) (h2:∀ v e:Nat,v<n->¬ Z54 M v e):(∀ x ∈ M,x=0)<->PE es:=by
 rw[<- h.pe]
 constructor
 .exact Z94
 .rintro⟨l,l1,l2⟩
  have live:∀ (i x:Nat),M[i]? = some x->x≠0->g[i]? = some false:=fun i x hi hx=>by
   have hil:=(List.getElem?_eq_some_iff.1 hi).1
   obtain⟨b,hgb⟩:∃ b,g[i]? = some b:=⟨_,List.getElem?_eq_getElem (by rw[h.lg,<- h.lm];exact hil)⟩
   cases b with
   | false=>exact hgb
   | true=>
    have:=h.gone i hgb
    rw[hi] at this
    cases this
    exact absurd rfl hx
  refine X75 (fun i j x y hij hi hj hx hy hs=>h1 i j ⟨hij,live i x hi hx,live j y hj hy,x,y,hi,hj,?_⟩) (fun i x v hi hv => ?_) l1 l2
  .apply Nat.eq_of_testBit_eq
   intro w
   rw[N1,Nat.zero_testBit]
   cases hw:x.testBit w with
   | false=>rfl
   | true=>rw[hs w hw];rfl
  .refine Classical.byContradiction fun hno=>h2 v i (R7 (h.lt x (List.mem_of_getElem? hi)) hv) ⟨(R69 hi).trans hv,fun j hji => ?_⟩
   cases hb:J14 M v j with
   | false=>rfl
   | true=>
    unfold J14 at hb
    split at hb
    .rename_i y hy
     exact absurd ⟨j,y,hji,hy,hb⟩ hno
    .cases hb
theorem W80(A:Option Addr)(es:List Nat)(cap:Nat)(H:Y0)(nx:Nat)(hS:Sl H nx A (K12 es))(h0:Has H nx A)(hl:es.length<=64):
  Q2 gQ 85 [.slice A es.length cap] H nx fun r H' nx'=>(∃ B,r = .slice B es.length es.length/\Sl H' nx' B (K12 es)/\(0<es.length->∃ q,B=some ⟨q,0,none⟩/\nx<=q/\q<nx'/\J0 H' q=some (.cells (K12 es) 1)))/\D0 H nx H' nx':=by
 refine spec85 ?_;unfold F85;simp only[W1];rw[G21]
 cases A with
 | none=>
  have O:es=[]:=by
   cases es with
   | nil=>rfl
   | cons x es=>
    obtain⟨b,o,row,e,_⟩:=hS.open (i:=0) (by rw[E1];simp)
    cases e
  subst O;simp only[W0,Q0.val,Option.isNone];exact⟨⟨none,rfl,Sl.nil _ _ _,fun h=>absurd h O2⟩,D0.refl _ _⟩
 | some a=>
  simp only[W0,Q0.val,Option.isNone,U21];have hX:D0 H nx (hs H nx (some (.cells [] 0))) (nx+1):=(D0.refl H nx).nw _;refine R20 (lo:=nx) (H0:=H) (l:=K12 es) (Z11 _ _ _) (aD _) O0 (C27 (hS.ext hX) (h0.ext hX) (by rw[E1,eQ]) O0) (W5 es) O0 O0 hX ?_;intro v1 H1 V _ J Q;have E:=J;obtain⟨P,rfl,hP,_⟩:=J.sl;rw[E1];refine⟨⟨P,rfl,hP,fun U => ?_⟩,Q⟩;rcases E with E | ⟨e,_⟩
  .rcases E.2 with ⟨e,_⟩ | ⟨q,q1,q2,q3,q4⟩
   .rw[E1] at e;omega
   .injection q3 with q5
    exact⟨q,q5,q1,q2,q4⟩
  .have:=congrArg List.length e
   rw[E1] at this;have h2:es.length=0:=this;omega
theorem C53{b:Nat}{s:Nat}(h:J0 H b=some (.cells c s))(hb:b<nx):Sl H nx (some ⟨b,0,none⟩) c:=
 fun i v hv=>⟨b,0,c,rfl,hb,by simp[Q5,h,V3.row],by simpa using hv⟩
theorem _root_.Go.Clo.Acc.more{lo:Nat}{H:Y0}{nx nx' size:Nat}{v:Value}{n:Nat}{c:List Value}(h:Acc lo H nx size v n c)(E:nx<=nx'):Acc lo H nx' size v n c:=
 ⟨h.1,h.2.imp id fun⟨b,h1,h2,h3,h4⟩=>⟨b,h1,O0,h3,h4⟩⟩
theorem _root_.Go.Clo.Acc.hs'{lo:Nat}{size:Nat}{v:Value}(h:Acc lo H nx size v n c){x:Option V3}(hi:i<lo\/nx<=i):Acc lo (hs H i x) nx size v n c:=
 ⟨h.1,h.2.imp id fun⟨b,h1,h2,h3,h4⟩=>⟨b,h1,h2,h3,by rw[gN _];exact h4⟩⟩
theorem U111{n:Nat}(hn:n<=6)(A:Option Addr)(es:List Nat)(cap:Nat)(H:Y0)(nx:Nat)(hS:Sl H nx A (K12 es))(hH:Has H nx A)(a4:∀ e ∈ es,e<2^n)(h0:0<es.length)(hl:es.length<=8):
  Q2 gQ 52 [gv n A es.length cap] H nx fun r H' nx'=>D0 H nx H' nx'/\∃(steps:Value) (B:Option Addr) (rest:List Nat),r = .tuple ⟨[steps,.slice B rest.length rest.length]⟩/\rest.length<=64/\Sl H' nx' B (K12 rest)/\((∀ x ∈ rest,x=0)<->PE es):=by
 have cd:2^n<=64:=aK (n:=2) O0 hn;have c6:U14 es:=fun e he=>by have:=a4 e he;omega
 have hg:N3 n es=0:=V11 O0 O0 fun i e he=>a4 e (aH he)
 refine spec52 ?_;unfold F52;have ad:D0 H nx (hs H nx (some (.cells [.int .i64 (n:Int),.slice A es.length cap] 0))) (nx+1):=(D0.refl H nx).nw _;simp only[gv];simp(config:={ maxSteps:=2000000 })only[W0,Z0,Q0.val,C13];generalize hK:hs H nx (some (.cells [.int .i64 (n:Int),.slice A es.length cap] 0))=K at ad;have kG:J0 K nx=some (.cells [.int .i64 (n:Int),.slice A es.length cap] 0):=by rw[<- hK,Z11]
 refine R0 (N11 n A es cap K (nx+1) (hS.ext ad) c6) ?_;rintro _ H2 nx2 ⟨rfl,ae⟩;have d0:decide ((0:Int)≠0)=false:=O2;have a2:=ad.trans ae;have az:=(ae.gt nx).trans kG;rw[hg];simp(config:={ maxSteps:=2000000 })only[W0,d0,az];refine R0 (W80 A es cap H2 nx2 (hS.ext a2) (hH.ext a2) O0) ?_;rintro _ H3 E ⟨⟨B,rfl,_,hB⟩,ai⟩;obtain⟨q,rfl,cj,bd,c8⟩:=hB h0;have bf:es.length<=1000000:=O0;have ce:=ae.le;have cc:=ai.le;simp(config:={ maxSteps:=2000000 })only[W0,M27 bf,G69];generalize b8:hs H3 E (some (.cells (V19 (aF es.length false)) 0))=K4;have aj:D0 H3 E K4 (E+1):=by rw[<- b8];exact(D0.refl H3 E).nw _
 have b3:=(a2.trans ai).trans aj;have a7:RdS es n es (aF es.length false):=⟨Iff.rfl,rfl,O2,a4,fun i hi=>by
  rw[List.getElem?_replicate] at hi
  split at hi<;>cases hi⟩
 have aw:es.sum+(aF es.length false).count false+0<=1000:=by
  have:=E111 (l:=es) (b:=63) fun x hx=>by have:=a4 x hx;omega
  simp;omega
 refine B1 (m:=es.sum+(aF es.length false).count false) (fun m L H' nx'=>∃(rest:List Nat) (V:List Bool) (cnt:Nat) (c:List Value) (v:Value),rest.sum+V.count false=m/\m+cnt<=1000/\L=[v]/\Acc (E+1) H' nx' 3 v cnt c/\D0 H nx H' nx'/\E+1<=nx' /\
   J0 H' nx=some (.cells [.int .i64 (n:Int),.slice A es.length cap] 0)/\J0 H' q=some (.cells (K12 rest) 1)/\J0 H' E=some (.cells (V19 V) 0)/\rest.length=es.length/\RdS es n rest V) ?_
  ⟨es,aF es.length false,0,[],_,rfl,aw,rfl,Acc.nil _ _ _ _,b3,aD _,(aj.gt nx).trans ((ai.gt nx).trans az),(aj.get q bd).trans c8,by rw[<- b8,Z11],rfl,a7⟩
 rintro m ih L H5 ak ⟨rest,V,cnt,c,v,ap,cf,rfl,hA,bh,cn,g1,gq,gr,Z,hR⟩ bx;have aq:V.length=rest.length:=hR.lg.trans hR.lm.symm;have al:U14 rest:=fun x hx=>by have:=hR.lt x hx;omega
 simp(config:={ maxSteps:=2000000 })only[W0];have eB:∀(x y z:Int) k,K6 1 3 [.int .i64 0,.int .i64 0,.int .i64 0] [(0,.agg ⟨[.int .i64 x,.int .i64 y,.int .i64 z]⟩)] k=k [.int .i64 x,.int .i64 y,.int .i64 z]:=fun _ _ _ _=>rfl
 have bv:Sl H5 ak (some ⟨q,0,none⟩) (K12 rest):=C53 gq O0;have bw:Sl H5 ak (some ⟨E,0,none⟩) (V19 V):=C53 gr O0;have ax:=Q86 (some ⟨q,0,none⟩) (some ⟨E,0,none⟩) rest V es.length es.length H5 ak bv bw aq O0 al;rw[aq,Z] at ax;refine R0 ax ?_;rintro _ H6 J ⟨a0,h⟩;have ck:=a0.le;have ah:=(a0.gt nx).trans g1;have ay:=(a0.gt q).trans gq;have b4:=(a0.gt E).trans gr;have b5:=hA.ext a0;have aa:=bh.trans a0;have next:∀(O:List Nat) (W:List Bool) (H8:Y0) (Q:Nat) (x y z:Int),(O.sum+W.count false)<m->O.length=es.length->RdS es n O W->Acc (E+1) H8 Q 3 v cnt c->D0 H nx H8 Q->E+1<=Q ->
   J0 H8 nx=some (.cells [.int .i64 (n:Int),.slice A es.length cap] 0)->J0 H8 q=some (.cells (K12 O) 1)->J0 H8 E=some (.cells (V19 W) 0) ->
   B5 v (.slice (some ⟨Q,0,none⟩) 1 1) 3 24 (hs H8 Q (some (.cells [.int .i64 x,.int .i64 y,.int .i64 z] 0))) (Q+1) fun a5 bt au=>ih [a5] bt au:=by
  intro O W H8 Q x y z c9 bu bg ag U c4 an a6 ac;have a3:D0 H8 Q (hs H8 Q (some (.cells [.int .i64 x,.int .i64 y,.int .i64 z] 0))) (Q+1):=(D0.refl H8 Q).nw _;refine Y20 (H0:=hs H8 Q (some (.cells [.int .i64 x,.int .i64 y,.int .i64 z] 0))) O0 (ag.ext a3) (J9 (Z11 _ _ _) rfl O0) O0 rfl O0 O0 (D0.sf) O0 ?_;intro v' H' bc a8 bk;refine bx ((O.sum+W.count false)) _ _ _ c9 ⟨O,W,cnt+1,_,v',rfl,O0,rfl,bc,?_,O0,?_,?_,?_,bu,bg⟩
  .exact⟨by have:=U.le;omega,fun i hi=>by rw[a8.gt i,a3.get i (by have:=U.le;omega)];exact U.get i hi⟩
  .rw[a8.gt nx,a3.gt nx];exact an
  .rw[a8.gt q,a3.gt q];exact a6
  .rw[a8.gt E,a3.gt E];exact ac
 rcases h with ⟨e,i,ha,rfl⟩ | ⟨bo,rfl⟩
 ·
  have a9:e<rest.length:=by obtain⟨_,_,_,x,_,hx,_⟩:=ha;exact N12 hx
  have c7:e<V.length:=N12 ha.2.1;have q1:e+1<=(K12 rest).length:=by rw[E1];omega
  have q2:e+1<=(V19 V).length:=by rw[D38];omega
  have q3:e<es.length:=O0;have n1:q≠J:=O0;have n2:E≠J:=O0;have n3:q≠E:=O0;have n4:nx≠J:=O0;have n5:nx≠q:=O0;have n6:nx≠E:=O0;simp(config:={ maxSteps:=2000000 }) (disch:=omega)only[W0,Z0,Nat.reduceAdd,N13,D7,ay,b4,q1,q2,Z1 _ n1,Z1 _ n2,Z1 _ n3.symm,Z1 _ n1.symm,Z1 _ n2.symm,Y12,Q106 a9,X106 c7,eB];refine next (rest.set e 0) (V.set e true) _ _ _ _ _ (by rw[<- ap];exact(hR.abs ha).2) (by simp[Z]) (hR.abs ha).1 ((((b5.hs' (.inr (aD _))).hs' (.inr (aD _))).hs' (.inl O0)).hs' (.inl O0) |>.more O0) ((((aa.nw _).h0).h0).h0) O0 ?_ ?_ ?_
  .rw[Z1 _ n6,Z1 _ n5,Z1 _ n4,Z1 _ n4];exact ah
  .rw[Z1 _ n3,Z11]
  .rw[Z11]
 ·
  have n1:q≠J:=O0;have n2:E≠J:=O0;have n3:q≠E:=O0;have n4:nx≠J:=O0;have n5:nx≠q:=O0;have a1:D0 H6 J (hs (hs H6 J (some (.cells [.int .i64 0,.int .i64 0,.int .i64 0] 0))) J (some (.cells [.int .i64 0,.int .i64 0,.int .i64 0] 0))) (J+1):=((D0.refl H6 J).nw _).h0;generalize ao:hs (hs H6 J (some (.cells [.int .i64 0,.int .i64 0,.int .i64 0] 0))) J (some (.cells [.int .i64 0,.int .i64 0,.int .i64 0] 0))=K7 at a1;have k7:J0 K7 J=some (.cells [.int .i64 0,.int .i64 0,.int .i64 0] 0):=by rw[<- ao,Z11]
  have g17:=(a1.gt nx).trans ah;have ba:=(a1.gt q).trans ay;have c3:=(a1.gt E).trans b4;simp(config:={ maxSteps:=2000000 })only[W0,Z0,Nat.reduceAdd,N13,D7,ao,g17];have av:=K83 (n:=n) O0 (some ⟨q,0,none⟩) rest es.length K7 (J+1) (C53 ba O0) O0 al;rw[Z] at av;refine R0 av ?_;rintro _ H8 Q ⟨U,h⟩;have c4:=U.le;have k8:=(U.gt J).trans k7;have an:=(U.gt nx).trans g17;have a6:=(U.gt q).trans ba;have ac:=(U.gt E).trans c3;have ag:Acc (E+1) H8 J 3 v cnt c:=b5.ext ⟨aD _,(a1.trans U).get⟩;have ab:=(aa.trans a1).trans U;rcases h with ⟨v0,e,ci,ha,rfl⟩ | ⟨bz,rfl⟩
  .have a9:=X112 ha.1
   obtain⟨x,hx⟩:∃ x,rest[e]? = some x:=⟨_,aE a9⟩
   have q1:e+1<=(K12 rest).length:=by rw[E1];omega
   have cg:=al.get hx;have ca:2^v0<4294967296:=Y18 O0;simp(config:={ maxSteps:=2000000 }) (disch:=omega)only[W0,Z0,Nat.reduceAdd,k8,D7,Z1 _ n1,a6,Q3 hx,Z1 _ n1.symm,q1,V10 a9,Y12,eB];refine next (rest.set e (Z2 x (2^v0))) V _ _ _ _ _ (by rw[<- ap];exact(hR.iso hx ha).2) (by simp[Z]) (hR.iso hx ha).1 (((ag.hs' (.inr (aD _))).hs' (.inl O0)).more O0) (((ab.more O0).h0).h0) O0 ?_ ?_ ?_
   .rw[Z1 _ n5,Z1 _ n4];exact an
   .rw[Z11]
   .rw[Z1 _ n3.symm,Z1 _ n2];exact ac
  .simp(config:={ maxSteps:=2000000 })only[W0,Z0,Nat.reduceAdd,k8,D7]
   exact⟨ab.h0,v,some ⟨q,0,none⟩,rest,by rw[Z],O0,C53 (s:=1) (by rw[Z1 _ n1];exact a6) O0,hR.stuck bo bz⟩
theorem U103{n:Nat}(hn:n<=6)(A:Option Addr)(cap:Nat)(H:Y0)(nx:Nat)(hS:Sl H nx A (K12 []))(hH:Has H nx A):
  Q2 gQ 52 [gv n A 0 cap] H nx fun r H' nx'=>D0 H nx H' nx'/\∃(steps:Value) (B:Option Addr) (rest:List Nat),r = .tuple ⟨[steps,.slice B rest.length rest.length]⟩/\rest.length<=64/\Sl H' nx' B (K12 rest)/\((∀ x ∈ rest,x=0)<->PE []):=by
 have Z:U14 []:=fun e he=>by cases he
 have hg:N3 n []=0:=V11 O0 O2 fun i e he=>by simp at he
 refine spec52 ?_;unfold F52;have V:D0 H nx (hs H nx (some (.cells [.int .i64 (n:Int),.slice A 0 cap] 0))) (nx+1):=(D0.refl H nx).nw _;simp only[gv];simp(config:={ maxSteps:=2000000 })only[W0,Z0,Q0.val,C13];generalize hK:hs H nx (some (.cells [.int .i64 (n:Int),.slice A 0 cap] 0))=K at V;have kG:J0 K nx=some (.cells [.int .i64 (n:Int),.slice A 0 cap] 0):=by rw[<- hK,Z11]
 refine R0 (N11 n A [] cap K (nx+1) (hS.ext V) Z) ?_;rintro _ H2 nx2 ⟨rfl,W⟩;have d0:decide ((0:Int)≠0)=false:=O2;have O:=V.trans W;have a3:=(W.gt nx).trans kG;have ad:=W.le;rw[hg];simp(config:={ maxSteps:=2000000 })only[W0,d0,a3];refine R0 (W80 A [] cap H2 nx2 (hS.ext O) (hH.ext O) O2) ?_;rintro _ H3 J ⟨⟨B,rfl,a5,_⟩,a2⟩;have ac:=a2.le;have ab:=(a2.gt nx).trans a3;simp only[List.length_nil] at *
 have aa:∀ k:List Value->Nat->Nat->Prop,D30 (.int .i64 0) (.int .i64 0) [.bool false] k=k [] 0 0:=fun k=>by
  have:=M27 (n:=0) O0 [.bool false] k;exact this
 simp(config:={ maxSteps:=2000000 })only[W0];have U:D0 H3 J (hs H3 J (some (.cells [] 0))) (J+1):=(D0.refl H3 J).nw _;have a9:=(U.gt nx).trans ab;have a4:=(O.trans a2).trans U;refine B1 (m:=0) (fun m L H' nx'=>L=[.slice none 0 0]/\hs H3 J (some (.cells [] 0))=H'/\J+1=nx') ?_ ⟨rfl,rfl,rfl⟩;rintro m ih L _ _ ⟨rfl,rfl,rfl⟩ ag;simp(config:={ maxSteps:=2000000 })only[W0];refine R0 (Q86 B (some ⟨J,0,none⟩) [] [] 0 0 (hs H3 J (some (.cells [] 0))) (J+1) (a5.ext U) (Sl.nil _ _ _) rfl O2 Z) ?_;rintro _ H6 E ⟨Q,h⟩;have a7:=(Q.gt nx).trans a9;have ak:=Q.le;rcases h with ⟨e,i,ha,rfl⟩ | ⟨al,rfl⟩
 .have:=ha.2.1;simp at this
 have a1:D0 H6 E (hs (hs H6 E (some (.cells [.int .i64 0,.int .i64 0,.int .i64 0] 0))) E (some (.cells [.int .i64 0,.int .i64 0,.int .i64 0] 0))) (E+1):=((D0.refl H6 E).nw _ (m:=E+1)).h0;have k7:J0 (hs (hs H6 E (some (.cells [.int .i64 0,.int .i64 0,.int .i64 0] 0))) E (some (.cells [.int .i64 0,.int .i64 0,.int .i64 0] 0))) E=some (.cells [.int .i64 0,.int .i64 0,.int .i64 0] 0):=Z11 _ _ _;have a8:=(a1.gt nx).trans a7;simp(config:={ maxSteps:=2000000 })only[W0,Z0,Nat.reduceAdd,N13,D7,a8];generalize hs (hs H6 E (some (.cells [.int .i64 0,.int .i64 0,.int .i64 0] 0))) E (some (.cells [.int .i64 0,.int .i64 0,.int .i64 0] 0))=K7 at *
 refine R0 (K83 (n:=n) O0 B [] 0 K7 (E+1) (((a5.ext U).ext Q).ext a1) O2 Z) ?_;rintro _ H8 ah ⟨a0,h⟩;have aj:=a0.le;have k8:=(a0.gt E).trans k7;rcases h with ⟨v0,e,ae,ha,rfl⟩ | ⟨ai,rfl⟩
 .have:=ha.1;simp[J14] at this
 have a6:=((a4.trans Q).trans a1).trans a0;simp(config:={ maxSteps:=2000000 })only[W0,Z0,Nat.reduceAdd,k8,D7];refine⟨a6.h0,_,B,[],rfl,O2,?_,fun _=>Z94 O2,O2⟩;exact Sl.nil _ _ _
theorem B106{n:Nat}(hn:n<=6)(A:Option Addr)(es:List Nat)(cap:Nat)(H:Y0)(nx:Nat)(hS:Sl H nx A (K12 es))(hH:Has H nx A)(E:∀ e ∈ es,e<2^n)(hl:es.length<=8):
  Q2 gQ 52 [gv n A es.length cap] H nx fun r H' nx'=>D0 H nx H' nx'/\∃(steps:Value) (B:Option Addr) (rest:List Nat),r = .tuple ⟨[steps,.slice B rest.length rest.length]⟩/\rest.length<=64/\Sl H' nx' B (K12 rest)/\((∀ x ∈ rest,x=0)<->PE es):=by
 rcases cI es.length with h | h
 .have:=dT.1 h
  subst this;exact U103 hn A cap H nx hS hH
 .exact U111 hn A es cap H nx hS hH E h hl
theorem V106{n:Nat}(hn:n<=6)(A:Option Addr)(es:List Nat)(cap:Nat)(H:Y0)(nx:Nat)(hS:Sl H nx A (K12 es))(hH:Has H nx A)(J:∀ e ∈ es,e<2^n)(hl:es.length<=8):
  Q2 gQ 19 [gv n A es.length cap] H nx fun r H' nx'=>(∃ c:Bool,r = .bool c/\(c=true<->PE es))/\D0 H nx H' nx':=by
 have a2:2^n<=64:=aK (n:=2) O0 hn;have Z:U14 es:=fun e he=>by have:=J e he;omega
 have hg:N3 n es=0:=V11 O0 O0 fun i e he=>J e (aH he)
 refine spec19 ?_;unfold F19;have Q:D0 H nx (hs H nx (some (.cells [.int .i64 (n:Int),.slice A es.length cap] 0))) (nx+1):=(D0.refl H nx).nw _;simp only[gv];simp(config:={ maxSteps:=2000000 })only[W0,Z0,Q0.val,C13];refine R0 (N11 n A es cap _ (nx+1) (hS.ext Q) Z) ?_;rintro _ H2 nx2 ⟨rfl,U⟩;have d0:decide ((0:Int)≠0)=false:=O2;have E:=Q.trans U;have O:=U.gt nx;rw[Z11] at O;rw[hg];simp(config:={ maxSteps:=2000000 })only[W0,d0,O,C13];refine R0 (B106 hn A es cap H2 nx2 (hS.ext E) (hH.ext E) J hl) ?_;rintro _ H3 W ⟨a1,steps,B,rest,rfl,a0,V,hz⟩;simp(config:={ maxSteps:=2000000 })only[W0];refine R0 (X115 B rest rest.length H3 W V a0) ?_;rintro _ _ _ ⟨⟨c,rfl,hc⟩,rfl,rfl⟩;simp(config:={ maxSteps:=2000000 })only[W0];refine⟨⟨_,rfl,?_⟩,E.trans a1⟩;rw[<- hz,cJ,<- Bool.not_eq_true,hc]
 constructor
 .intro h x hx
  exact aI fun h0=>h ⟨x,hx,h0⟩
 .rintro h ⟨e,he,h0⟩
  exact h0 (h e he)
end
section
variable {a b f n v:Nat} {es p:List Nat}
structure RnE (σ τ:Nat->Nat) (es es':List Nat):Prop where
 l:∀ v,σ (τ v)=v
 r:∀ v,τ (σ v)=v
 a:∀ e ∈ es,∃ e' ∈ es',∀ w,e'.testBit w=e.testBit (σ w)
 b:∀ e' ∈ es',∃ e ∈ es,∀ w,e'.testBit w=e.testBit (σ w)
section
variable {σ τ:Nat->Nat} {es es':List Nat} (h:RnE σ τ es es')
include h
theorem RnE.symm:RnE τ σ es' es:=
 ⟨h.r,h.l,fun e' E=>by
  obtain⟨e,h1,h2⟩:=h.b e' E;exact⟨e,h1,fun w=>by rw[h2,h.l]⟩,fun e he=>by
  obtain⟨e',h1,h2⟩:=h.a e he;exact⟨e',h1,fun w=>by rw[h2,h.l]⟩⟩
theorem RnE.inj(e:σ a=σ b):a=b:=by rw[<- h.r a,e,h.r]
theorem RnE.cov:Q21 es' v<->Q21 es (σ v):=by
 constructor
 .rintro⟨e',h1,h2⟩
  obtain⟨e,h3,h4⟩:=h.b e' h1;exact⟨e,h3,by rw[<- h4];exact h2⟩
 .rintro⟨e,h1,h2⟩
  obtain⟨e',h3,h4⟩:=h.a e h1;exact⟨e',h3,by rw[h4];exact h2⟩
theorem RnE.adj:N10 es' a b<->N10 es (σ a) (σ b):=by
 constructor
 .rintro⟨E,e',h1,h2,h3⟩
  obtain⟨e,h4,h5⟩:=h.b e' h1;exact⟨fun e=>E (h.inj e),e,h4,by rw[<- h5];exact h2,by rw[<- h5];exact h3⟩
 .rintro⟨E,e,h1,h2,h3⟩
  obtain⟨e',h4,h5⟩:=h.a e h1;exact⟨fun e=>E (by rw[e]),e',h4,by rw[h5];exact h2,by rw[h5];exact h3⟩
theorem RnE.pel:∀{l:List Nat},PEl es' l->PEl es (l.map σ)
 | [],_=>trivial
 | v :: r,g=>by
  refine⟨fun hc => ?_,RnE.pel g.2⟩;obtain⟨e',h1,h2,h3⟩:=g.1 (h.cov.2 hc);obtain⟨e,h4,h5⟩:=h.b e' h1;refine⟨e,h4,by rw[<- h5];exact h2,fun w hw ha => ?_⟩;obtain⟨u,hu,rfl⟩:=gN.1 hw;rw[<- h5];exact h3 u hu (h.adj.2 ha)
theorem RnE.pe1(g:PE es'):PE es:=by
 obtain⟨l,h1,h2⟩:=g;refine⟨l.map σ,fun v hv => ?_,h.pel h2⟩;have:=h1 (τ v) (h.cov.2 (by rw[h.l];exact hv));exact gN.2 ⟨τ v,this,h.l v⟩
theorem RnE.pe:PE es'<->PE es:=⟨h.pe1,h.symm.pe1⟩
theorem RnE.free1(hf:∀ v,σ v<f<->v<f)(hn:∀ v,σ v<n<->v<n){l:List Nat}(g:D48 (N10 es') n f l):D48 (N10 es) n f (l.map σ):=by
 have key:∀(i x:Nat),(l.map σ)[i]? = some x->∃ y,l[i]? = some y/\σ y=x:=fun i x hx=>by
  simp_all
 refine⟨by rw[gM];exact g.len,fun i j x y E hx hy => ?_,fun i x hx => ?_,fun i x hx => ?_⟩
 .obtain⟨u,hu,rfl⟩:=key i x hx
  obtain⟨w,hw,rfl⟩:=key j y hy;obtain⟨h1,h2⟩:=g.ch i j u w E hu hw;exact⟨fun e=>h1 (h.inj e),by rw[<- h.adj];exact h2⟩
 .obtain⟨u,hu,rfl⟩:=key i x hx
  exact(hn u).2 (g.lt i u hu)
 .obtain⟨u,hu,rfl⟩:=key i x hx
  rw[gM,hf u];exact g.ends i u hu
theorem RnE.fpth(hf:∀ v,σ v<f<->v<f)(hn:∀ v,σ v<n<->v<n):U25 (N10 es') n f []<->U25 (N10 es) n f []:=by
 rw[V45,V45]
 constructor
 .rintro⟨l,g⟩;exact⟨_,h.free1 hf hn g⟩
 .rintro⟨l,g⟩
  exact⟨_,h.symm.free1 (fun v=>by rw[<- hf (τ v),h.l]) (fun v=>by rw[<- hn (τ v),h.l]) g⟩
end
def N20(e:Nat):Nat->Nat
 | 0=>e
 | k+1=>Z2 (N20 e k) (2^k)
def N19(e:Nat)(p:List Nat)(m:Nat):Nat->Nat
 | 0=>m
 | k+1=>if e.testBit (p.getD k 0) then N19 e p m k ||| 2^k else N19 e p m k
def B53(p:List Nat)(e:Nat):Nat:=N19 e p (N20 e p.length) p.length
def G25(es p:List Nat):List Nat:=es.map (B53 p)
theorem N56(e w:Nat):∀ k,(N20 e k).testBit w=(e.testBit w&&decide (k<=w))
 | 0=>by simp[N20]
 | k+1=>by
  rw[N20,N1,N56 e w k,aR]
  grind
theorem J46(e:Nat)(p:List Nat)(m w:Nat):∀ k,(N19 e p m k).testBit w=(m.testBit w || (decide (w<k)&&e.testBit (p.getD w 0)))
 | 0=>by simp[N19]
 | k+1=>by
  rw[N19]
  split
  .rename_i h
   rw[aV,J46 e p m w k,aR]
   grind
  .rename_i h
   rw[J46 e p m w k]
   grind
theorem V59(p:List Nat)(e w:Nat):(B53 p e).testBit w=e.testBit (if w<p.length then p.getD w 0 else w):=by
 unfold B53;rw[J46,N56]
 grind
theorem W46(es p:List Nat):(G25 es p).length=es.length:=by simp[G25]
structure IsF (f:Nat) (p:List Nat):Prop where
 nd:p.Nodup
 lt:∀ x ∈ p,x<f
 len:p.length=f
theorem IsF.all(h:IsF f p)(hv:v<f):v ∈ p:=aI fun hn=>by
 have h1:(v :: p).Nodup:=hO.2 ⟨hn,h.nd⟩;have h2:=iB (l₂:=aY f) h1 fun x hx=>by
  rw[cW];rcases aU.1 hx with rfl | hx
  .exact hv
  .exact h.lt x hx
 rw[List.length_range,cV,h.len] at h2;omega
def sgm(p:List Nat)(v:Nat):Nat:=if v<p.length then p.getD v 0 else v
open Classical in
def tau(p:List Nat)(v:Nat):Nat:=if h:∃ u,u<p.length/\p.getD u 0=v then h.choose else v
section
variable {f n:Nat} {p:List Nat} (h:IsF f p)
include h
theorem IsF.at{u:Nat}(hu:u<f):p[u]? = some (p.getD u 0)/\p.getD u 0<f:=by
 have hl:=h.len;have e:p[u]? = some p[u]:=aE O0;have e2:p.getD u 0=p[u]:=by simp_all
 exact⟨by rw[e2];exact e,by rw[e2];exact h.lt _ (List.getElem_mem _)⟩
theorem IsF.sgm_lt(v:Nat):sgm p v<f<->v<f:=by
 unfold sgm;rw[h.len]
 split
 .rename_i hv;exact⟨fun _=>hv,fun _=>(h.at hv).2⟩
 .exact Iff.rfl
theorem IsF.sgm_n(hf:f<=n)(v:Nat):sgm p v<n<->v<n:=by
 by_cases hv:v<f
 .have:=(h.sgm_lt v).2 hv
  omega
 .unfold sgm
  rw[h.len,if_neg hv]
theorem IsF.ren(es:List Nat):RnE (sgm p) (tau p) es (G25 es p):=by
 refine⟨fun v => ?_,fun v => ?_,fun e he=>⟨B53 p e,gN.2 ⟨e,he,rfl⟩,fun w=>V59 p e w⟩,fun e' E => ?_⟩
 .unfold tau
  by_cases hx:∃ u,u<p.length/\p.getD u 0=v
  .rw[dif_pos hx]
   grind[sgm]
  .rw[dif_neg hx]
   have hv:¬ v<f:=fun hv=>by
    obtain⟨u,hu⟩:=cH (h.all hv);have J:=(aJ.1 hu).1
    simp_all
   unfold sgm;rw[h.len,if_neg hv]
 .unfold tau
  by_cases hv:v<f
  .have hs:sgm p v=p.getD v 0:=by unfold sgm;rw[h.len,if_pos hv]
   have hx:∃ u,u<p.length/\p.getD u 0=sgm p v:=⟨v,by rw[h.len];exact hv,hs.symm⟩
   rw[dif_pos hx];have h1:=hx.choose_spec;have h2:=(h.at (u:=hx.choose) (by rw[<- h.len];exact h1.1)).1;exact B43 h.nd (h2.trans (congrArg some (h1.2.trans hs))) (h.at hv).1
  .have hs:sgm p v=v:=by unfold sgm;rw[h.len,if_neg hv]
   rw[hs];have hx:¬ ∃ u,u<p.length/\p.getD u 0=v:=fun⟨u,h1,h2⟩=>hv (by rw[<- h2];exact(h.at (u:=u) (by rw[<- h.len];exact h1)).2)
   rw[dif_neg hx]
 .obtain⟨e,he,rfl⟩:=gN.1 E
  exact⟨e,he,fun w=>V59 p e w⟩
theorem IsF.trio:R52 (G25 es p) f<->¬ X40 (N22 es) p:=by
 have hR:=h.ren es
 have hs:∀ {v:Nat},v<f->sgm p v=p.getD v 0:=fun {v} hv=>by unfold sgm;rw[h.len,if_pos hv]
 constructor
 .rintro⟨a,b,c,hab,hbc,hcf,h1,h2,h3⟩ hg
  rw[hR.adj,hs (by omega),hs hcf] at h1 h2
  rw[hR.adj,hs (by omega),hs (by omega)] at h3
  obtain⟨ga,_⟩:=h.at (u:=a) (by omega)
  obtain⟨gb,_⟩:=h.at (u:=b) (by omega)
  obtain⟨gc,_⟩:=h.at (u:=c) hcf
  have hcl:=(List.getElem?_eq_some_iff.1 gc).1
  have hsp:p=p.take c++p.getD c 0 :: p.drop (c+1):=by
   rw[<- Z19 gc,List.take_append_drop]
  have mem:∀ {i:Nat},i<c->p[i]? = some (p.getD i 0)->p.getD i 0 ∈ p.take c:=fun {i} hi g=>by
   refine List.mem_of_getElem? (i:=i) ?_
   rw[List.getElem?_take,if_pos hi];exact g
  refine h3 (hg _ _ _ hsp _ (mem (by omega) ga) _ (mem hbc gb) (fun e => ?_) h1.symm h2.symm)
  rw[e] at ga
  have:=B43 h.nd ga gb
  omega
 .intro hg
  refine Classical.byContradiction fun hn=>hg fun p1 v p2 e x hx y hy hne h1 h2 => ?_
  have hlen:=h.len
  rw[e,List.length_append,List.length_cons] at hlen
  have hv:p[p1.length]? = some v:=by rw[e];simp
  have hvD:p.getD p1.length 0=v:=by rw[List.getD_eq_getElem?_getD,hv];rfl
  obtain⟨i,hi⟩:=List.getElem?_of_mem hx
  obtain⟨j,hj⟩:=List.getElem?_of_mem hy
  have hil:=(List.getElem?_eq_some_iff.1 hi).1
  have hjl:=(List.getElem?_eq_some_iff.1 hj).1
  have dI:∀ {i x:Nat},i<p1.length->p1[i]? = some x->p.getD i 0=x:=fun {i x} hil hi=>by
   rw[List.getD_eq_getElem?_getD,e,List.getElem?_append_left hil,hi];rfl
  have di:=dI hil hi
  have dj:=dI hjl hj
  refine Classical.byContradiction fun hna=>hn ?_
  rcases Nat.lt_trichotomy i j with hij | hij | hij
  .refine⟨i,j,p1.length,hij,hjl,by omega,?_,?_,?_⟩
   .rw[hR.adj,hs (by omega),hs (by omega),di,hvD];exact h1.symm
   .rw[hR.adj,hs (by omega),hs (by omega),dj,hvD];exact h2.symm
   .rw[hR.adj,hs (by omega),hs (by omega),di,dj];exact hna
  .subst hij
   rw[hi] at hj;cases hj
   exact absurd rfl hne
  .refine⟨j,i,p1.length,hij,hil,by omega,?_,?_,?_⟩
   .rw[hR.adj,hs (by omega),hs (by omega),dj,hvD];exact h2.symm
   .rw[hR.adj,hs (by omega),hs (by omega),di,hvD];exact h1.symm
   .rw[hR.adj,hs (by omega),hs (by omega),di,dj];exact fun g=>hna g.symm
end
def U78(es:List Nat)(n f:Nat):Prop:=PE es/\¬ U25 (N10 es) n f []/\¬ R52 es f
theorem Z80 (hf:f<=n) (h:IsF f p):U78 (G25 es p) n f<->(PE es/\¬ U25 (N10 es) n f [])/\X40 (N22 es) p:=by
 have hR:=h.ren es
 unfold U78
 rw[hR.pe,hR.fpth h.sgm_lt (h.sgm_n hf),h.trio,Classical.not_not,and_assoc]
def X45(es:List Nat)(n f:Nat):Option (List Nat):=nr f (fun q=>U78 (G25 es q) n f) f [] none
theorem Z84(hf:f<=n)(h:¬ (PE es/\¬ U25 (N10 es) n f [])):X45 es n f=none:=
 N79 f [] none List.nodup_nil (fun x hx=>by simp at hx) O2 fun r h1 h2 h3 h4=>h ((Z80 hf ⟨h1,h2,h3⟩).1 h4).1
theorem V114(hf:f<=n)(h:PE es/\¬ U25 (N10 es) n f []):pr f (N22 es) f [] none=X45 es n f:=
 E112 (fun q h1 h2 h3=>(Z80 hf ⟨h1,h2,h3⟩).trans ⟨fun g=>g.2,fun g=>⟨h,g⟩⟩) f [] none List.nodup_nil (fun x hx=>by simp at hx) O2 W112
end
end Go.Proofs.YtoiioigihocgbaaGreatDoor
namespace Go.Clo
section
variable {H H':Y0} {M:Nat->Option Value} {r:Nat}
def D4(H:Y0)(r:Nat)(M:Nat->Option Value):Prop:=∃ es c,J0 H r=some (.map es c)/\(∀ x ∈ es,MapKept.IsKey (.int .i64) x.key) /\
 (∀(i j:Nat) (x y:MapEntry),es[i]? = some x->es[j]? = some y->x.key=y.key->i=j)/\∀(n:Nat) (v:Value),M n=some v<->∃ x ∈ es,x.key = .int .i64 (n:Int)/\x.val=v
theorem D4.same(h:D4 H r M)(e:J0 H' r=J0 H r):D4 H' r M:=by
 obtain⟨es,c,h1,h2,h3,h4⟩:=h;exact⟨es,c,by rw[e];exact h1,h2,h3,h4⟩
theorem D4.ext{nx:Nat}{nx':Nat}(h:D4 H r M)(hr:r<nx)(e:D0 H nx H' nx'):D4 H' r M:=h.same (e.get r hr)
theorem D4.congr{M':Nat->Option Value}(h:D4 H r M)(e:∀ n,M' n=M n):D4 H r M':=by rw[show M'=M from funext e];exact h
theorem D4.nil{c:Nat}(h:J0 H r=some (.map [] c)):D4 H r fun _=>none:=⟨[],c,h,O2,O2,O2⟩
theorem D4.find{es:List MapEntry}{M:Nat->Option Value}(h2:∀ x ∈ es,MapKept.IsKey (.int .i64) x.key)(h3:∀(i j:Nat)(x y:MapEntry),es[i]? = some x->es[j]? = some y->x.key=y.key->i=j)
  (h4:∀(n:Nat)(v:Value),M n=some v<->∃ x ∈ es,x.key = .int .i64 (n:Int)/\x.val=v)(n:Nat):
  (M n=none/\dP (.int .i64) (.int .i64 (n:Int)) es 0=some none/\∀ x ∈ es,x.key ≠ .int .i64 (n:Int))\/∃ j e,M n=some e.val/\dP (.int .i64) (.int .i64 (n:Int)) es 0=some (some (j,e.val))/\es[j]? = some e/\e.key = .int .i64 (n:Int):=by
 rcases MapKept.findNow_spec (d := .int .i64) (k := .int .i64 (n:Int)) rfl es 0 h2 with ⟨h,hn⟩ | ⟨j,e,h,hj,hk⟩
 .refine .inl ⟨?_,h,hn⟩
  cases hM:M n with
  | none=>rfl
  | some v=>
   obtain⟨x,hx,E,_⟩:=(h4 n v).1 hM;exact absurd E (hn x hx)
 .refine .inr ⟨j,e,(h4 n _).2 ⟨e,aH hj,hk,rfl⟩,?_,hj,hk⟩
  rw[h,cF]
theorem D4.lk{r:Nat}{M:Nat->Option Value}(h:D4 H r M)(n:Nat)(z:Value)(ok:Bool)(k:VP):
  wLk (.int .i64) z (.map (some r)) (.int .i64 (n:Int)) ok H k=(M n).elim (cond ok (k (.tuple ⟨[z,.bool false]⟩)) (k z)) fun v=>cond ok (k (.tuple ⟨[v,.bool true]⟩)) (k v):=by
 obtain⟨es,c,h1,h2,h3,h4⟩:=h;unfold wLk;rw[show Q9 (.int .i64) (.int .i64 (n:Int))=true from rfl];simp only[cond_true];rw[Y4,h1];simp only[aN];rcases D4.find h2 h3 h4 n with ⟨hM,hf,_⟩ | ⟨j,e,hM,hf,_⟩
 .rw[hf,hM];rfl
 .rw[hf,hM];rfl
theorem D4.lkN'{M:Nat->Option Value}(h:D4 H r M){n:Nat}(hn:M n=none)(z:Value)(k:VP):wLk (.int .i64) z (.map (some r)) (.int .i64 (n:Int)) false H k=k z:=by
 rw[h.lk,hn];rfl
theorem D4.lkS'{M:Nat->Option Value}(h:D4 H r M){n:Nat}{v:Value}(hn:M n=some v)(z:Value)(k:VP):wLk (.int .i64) z (.map (some r)) (.int .i64 (n:Int)) false H k=k v:=by
 rw[h.lk,hn];rfl
theorem M31{n m:Nat}(h:cD .i64 (n:Int) = .int .i64 (m:Int)):n=m:=by
 injection h with _ h;omega
theorem D4.put{nx r:Nat}{M:Nat->Option Value}(h:D4 H r M)(n:Nat)(v:Value){k:EP}(hk:∀ es c,D4 (hs H r (some (.map es c))) r (fun t=>if t=n then some v else M t)->k undef (hs H r (some (.map es c))) nx):
  W56 (.int .i64) (.map (some r)) (.int .i64 (n:Int)) v H nx k:=by
 obtain⟨es,c,h1,h2,h3,h4⟩:=h;unfold W56;dsimp only;rw[Y4,h1];simp only[aN,G52];rw[show Q9 (.int .i64) (.int .i64 (n:Int))=true from rfl];rcases D4.find h2 h3 h4 n with ⟨hM,hf,V⟩ | ⟨j,e,hM,hf,hj,U⟩
 .rw[hf]
  simp only[cond_true];rw[V14,G1,G4];refine hk _ _ ⟨_,_,Z11 _ _ _,?_,?_,fun t u => ?_⟩
  .intro x hx
   rcases dN.1 hx with hx | hx
   .exact h2 x hx
   .rw[dJ.1 hx];rfl
  .intro i j x y hx hy O
   rw[List.getElem?_append] at hx hy
   split at hx<;>split at hy
   .exact h3 i j x y hx hy O
   .have Z:y={ key := .int .i64 (n:Int),val:=v,born:=c }:=by
     have:=aH hy;simpa using this
    rw[Z] at O;exact absurd O (V x (aH hx))
   .have a0:x={ key := .int .i64 (n:Int),val:=v,born:=c }:=by
     have:=aH hx;simpa using this
    rw[a0] at O;exact absurd O.symm (V y (aH hy))
   .have h5:=(aJ.1 hx).1
    have h6:=(aJ.1 hy).1;simp at h5 h6;omega
  .by_cases Q:t=n
   .subst Q
    dsimp only;rw[if_pos rfl]
    constructor
    .intro hu
     cases hu
     exact⟨_,List.mem_append_right _ (dJ.2 rfl),rfl,rfl⟩
    .rintro⟨x,hx,E,J⟩
     rcases dN.1 hx with hx | hx
     .exact absurd E (V x hx)
     .rw[dJ.1 hx] at J
      rw[<- J]
   .dsimp only
    rw[if_neg Q,h4]
    constructor
    .rintro⟨x,hx,h⟩
     exact⟨x,dX _ hx,h⟩
    .rintro⟨x,hx,E,J⟩
     rcases dN.1 hx with hx | hx
     .exact⟨x,hx,E,J⟩
     .rw[dJ.1 hx] at E
      exact absurd (M31 E).symm Q
 .rw[hf]
  simp only[cond_true];rw[Q8,hj];simp only;rw[V14,G4,K25];have W:=(aJ.1 hj).1;refine hk _ _ ⟨_,_,Z11 _ _ _,?_,?_,fun t u => ?_⟩
  .intro x hx
   rcases List.mem_or_eq_of_mem_set hx with hx | rfl
   .exact h2 x hx
   .rfl
  .intro i i' x y hx hy O
   rw[cQ] at hx hy
   split at hx<;>split at hy
   .omega
   .rename_i g1 g2
    try rw[if_pos O0] at hx
    cases hx
    have:=h3 j i' e y hj hy (U.trans O);omega
   .rename_i g1 g2
    try rw[if_pos O0] at hy
    cases hy
    have:=h3 i j x e hx hj (O.trans U.symm);omega
   .exact h3 i i' x y hx hy O
  .by_cases Q:t=n
   .subst Q
    dsimp only;rw[if_pos rfl]
    constructor
    .intro hu
     cases hu
     exact⟨_,List.mem_set W _,rfl,rfl⟩
    .rintro⟨x,hx,E,J⟩
     obtain⟨i,hi⟩:=cH hx;rw[cQ] at hi
     split at hi
     .try rw[if_pos O0] at hi
      cases hi
      rw[<- J]
     .rename_i g
      exact absurd (h3 j i e x hj hi (U.trans E.symm)) g
   .dsimp only
    rw[if_neg Q,h4]
    constructor
    .rintro⟨x,hx,E,J⟩
     obtain⟨i,hi⟩:=cH hx;have a1:j≠i:=by
      rintro rfl;rw[hj] at hi
      cases hi
      exact Q (M31 (E.symm.trans U))
     refine⟨x,aH (i:=i) ?_,E,J⟩;rw[cQ,if_neg a1];exact hi
    .rintro⟨x,hx,E,J⟩
     obtain⟨i,hi⟩:=cH hx;rw[cQ] at hi
     split at hi
     .try rw[if_pos O0] at hi
      cases hi
      exact absurd (M31 E).symm Q
     .exact⟨x,aH hi,E,J⟩
theorem D4.clr(h:D4 H r M){k:Y0->Prop}(hk:∀ c,D4 (hs H r (some (.map [] c))) r (fun _=>none)->k (hs H r (some (.map [] c)))):M41 (.map (some r)) H k:=by
 obtain⟨es,c,h1,h2,h3,h4⟩:=h;unfold M41;dsimp only;rw[Y4,h1];simp only[aN];rw[G4];exact hk _ (D4.nil (Z11 _ _ _))
end
end Go.Clo
namespace Go.Proofs.YtoiioigihocgbaaGreatDoor
open Go.Clo Go.Inv
theorem W50{e N:Nat}(h:e<2^N):∀ k,N20 e k<2^N
 | 0=>h
 | k+1=>Z6 (W50 h k)
theorem U62{e m N:Nat}{p:List Nat}(hm:m<2^N):∀ k,k<=N->N19 e p m k<2^N
 | 0,_=>hm
 | k+1,h=>by
  have ih:=U62 (e:=e) (p:=p) hm k O0;rw[N19]
  split
  .exact Nat.or_lt_two_pow ih (Nat.pow_lt_pow_right O0 O0)
  .exact ih
theorem Y60{n:Nat}(hn:n<=6)(A:Option Addr)(es:List Nat)(cap:Nat)(P:Option Addr)(p:List Nat)(a8:Nat)(ah:∀ e ∈ es,e<2^n)(aq:es.length<=8)(hp:∀ x ∈ p,x<n)(ao:p.length<=n)(H:Y0)(nx:Nat)(hS:Sl H nx A (K12 es))(hP:Sl H nx P (U4 (p.map fun(x:Nat)=>(x:Int)))):
  Q2 gQ 21 [.slice A es.length cap,.slice P p.length a8] H nx fun r H' nx'=>(∃ B,r = .slice B es.length es.length/\Sl H' nx' B (K12 (G25 es p)))/\D0 H nx H' nx':=by
 have ak:2^n<=64:=aK (n:=2) O0 hn;refine spec21 ?_;unfold F21;refine B1 (m:=es.length) (fun m L H' nx'=>∃(i:Nat) (u:Value),m+i=es.length/\L=[u,.int .i64 (i:Int)]/\Acc nx H' nx' 1 u i (K12 (G25 (es.take i) p))/\D0 H nx H' nx') ?_ ⟨0,.slice none 0 0,O0,rfl,Acc.nil _ _ _ _,D0.refl _ _⟩;rintro m ih L H2 nx2 ⟨i,u,hm,rfl,hA,O⟩ ad;have ai:=O.le
 by_cases hi:i<es.length
 case neg=>
  have a2:¬ (i:Int)<(es.length:Int):=O0;obtain rfl:i=es.length:=O0;obtain⟨B,rfl,hB⟩:=hA.sl;simp only[W0,Q0.val,a2];rw[gJ (aD _)] at hB;exact⟨⟨B,rfl,hB⟩,O⟩
 have a2:(i:Int)<(es.length:Int):=O0;obtain⟨e,he⟩:∃ e,es[i]? = some e:=⟨_,aE hi⟩
 obtain⟨b,o,row,rfl,hb,J,a7⟩:=(hS.ext O).open (i:=i) (by rw[E1];omega);have g0:=a7 _ _ (Q3 he);have a6:=ah e (aH he);simp(disch:=omega)only[W0,Q0.val,a2,X3 J,g0];refine B1 (m:=p.length) (fun m L H' nx'=>∃ k:Nat,m+k=p.length/\L=[.int .u32 (N20 e k:Int),.int .i64 (k:Int)]/\H2=H'/\nx2=nx') ?_ ⟨0,O0,rfl,rfl,rfl⟩;rintro m3 az L3 _ _ ⟨k,au,rfl,rfl,rfl⟩ a4
 by_cases hk:k<p.length
 .have W:(k:Int)<(p.length:Int):=O0
  have b3:(k:Int)<18446744073709551616:=O0;have Z:k<32:=O0;have aw:N20 e k<4294967296:=by have:=W50 a6 k;omega
  have pk:2^k<4294967296:=Y18 Z;simp(disch:=omega)only[W0,W,Z10];exact a4 (m3-1) _ _ _ O0 ⟨k+1,O0,by simp[N20],rfl,rfl⟩
 have W:¬ (k:Int)<(p.length:Int):=O0;obtain rfl:k=p.length:=O0;simp only[W0,W];refine B1 (m:=p.length) (fun m L H' nx'=>∃ k:Nat,m+k=p.length/\L=[.int .u32 (N19 e p (N20 e p.length) k:Int),.int .i64 (k:Int)]/\H2=H'/\nx2<=nx') ?_ ⟨0,O0,rfl,rfl,aD _⟩;rintro m4 av L4 _ a1 ⟨k,ap,rfl,rfl,a5⟩ V;have aj:N19 e p (N20 e p.length) k<2^n:=U62 (W50 a6 _) k O0
 by_cases hk:k<p.length
 .have a0:(k:Int)<(p.length:Int):=O0
  have Z:k<32:=O0;have ay:N19 e p (N20 e p.length) k<4294967296:=O0;have pk:2^k<4294967296:=Y18 Z;obtain⟨x,hx⟩:∃ x,p[k]? = some x:=⟨_,aE hk⟩
  have a9:p.getD k 0=x:=by rw[aP,hx];rfl
  have ax:=hp x (aH hx);have ab:(p.map fun(x:Nat)=>(x:Int))[k]? = some (x:Int):=by rw[cP,hx];rfl
  obtain⟨b2,o2,al,rfl,an,E,a3⟩:=(hP.ext O).open (i:=k) (by rw[J6];omega);have g1:=a3 _ _ (Z9 ab);simp(disch:=omega)only[W0,a0,N13,X3 J,X3 E,g0,g1];refine R0 (W53 O0 O0 _ _) ?_;rintro _ _ _ ⟨rfl,rfl,rfl⟩
  cases U:e.testBit x with
  | false=>
   simp only[W0];refine V (m4-1) _ _ _ O0 ⟨k+1,O0,?_,rfl,O0⟩;rw[N19,a9,if_neg (by rw[U];simp)];simp
  | true=>
   simp(disch:=omega)only[W0,Z10];refine V (m4-1) _ _ _ O0 ⟨k+1,O0,?_,rfl,O0⟩;rw[N19,a9,if_pos U];simp
 have a0:¬ (k:Int)<(p.length:Int):=O0;obtain rfl:k=p.length:=O0;have ae:∀(x:Int) k,K6 1 1 [.int .u32 0] [(0,.int .u32 x)] k=k [.int .u32 x]:=fun x k=>rfl
 simp only[W0,a0,ae];have ac:D0 H2 a1 (hs H2 a1 (some (.cells [.int .u32 (N19 e p (N20 e p.length) p.length:Int)] 0))) (a1+1):=(D0.refl _ _).nw _;have Q:=(D0.self (H:=H2) a5).trans ac;refine Y20 (H0:=H) (lo:=nx) (m:=1) (l:=[.int .u32 (N19 e p (N20 e p.length) p.length:Int)]) O0 (hA.ext Q) (J9 (Z11 _ _ _) rfl O0) O0 rfl O0 O0 (O.trans Q) O0 ?_;intro v' H' aa ag _;refine ad (m-1) _ _ _ O0 ⟨i+1,v',O0,O2,?_,ag⟩;have e1:K12 (G25 (es.take (i+1)) p)=K12 (G25 (es.take i) p)++[.int .u32 (N19 e p (N20 e p.length) p.length:Int)]:=by
  rw[C7 he];simp[G25,K12,B53]
 rw[e1];exact aa
theorem Q81{p:List Int}{i:Nat}{x:Int}(h:p[i]? = some x):p.drop i=x :: p.drop (i+1):=by
 obtain⟨hi,rfl⟩:=aJ.1 h;exact List.drop_eq_getElem_cons hi
theorem D115(A:Option Addr)(p:List Int)(cap:Nat)(H:Y0)(nx:Nat)(hS:Sl H nx A (U4 p))(hl:p.length<=1000):
  Q2 gQ 20 [.slice A p.length cap] H nx fun r H' nx' => .int .i64 (inv p:Nat)=r/\H=H'/\nx<=nx':=by
 refine spec20 ?_;unfold F20;have hb:=X88 p;have a4:p.length*p.length<=1000000:=eL hl hl;refine B1 (fun m L H' nx'=>∃ i c:Nat,m+i=p.length/\L=[.int .i64 (c:Int),.int .i64 (i:Int)]/\c+inv (p.drop i)=inv p/\H=H'/\nx<=nx') ?_ (m:=p.length) ⟨0,0,O0,rfl,O2,rfl,aD _⟩;rintro m ih L _ n1 ⟨i,c,hm,rfl,hc,rfl,Z⟩ a1;simp(disch:=omega)only[W0]
 by_cases hi:i<p.length
 .have O:(i:Int)<(p.length:Int):=O0
  have hx:p[i]? = some p[i]:=aE hi;generalize p[i]=x at hx;have hd:=Q81 hx;rw[hd,inv] at hc;simp only[W0,O];refine B1 (fun m2 L2 H' nx'=>∃ k c2:Nat,m2+k=p.length/\L2=[.int .i64 (c2:Int),.int .i64 (k:Int)]/\i<k/\c2+less x (p.drop k)=c+less x (p.drop (i+1))/\H=H'/\nx<=nx') ?_ (m:=p.length-(i+1)) ⟨i+1,c,O0,O2,O0,rfl,rfl,Z⟩;rintro m2 a3 L2 _ n2 ⟨k,c2,a7,rfl,a6,E,rfl,a0⟩ U;simp(disch:=omega)only[W0]
  by_cases hk:k<p.length
  .have Q:(k:Int)<(p.length:Int):=O0
   obtain⟨b,o,row,rfl,a5,V,J⟩:=hS.open (i:=0) (by rw[X9];omega);have hy:p[k]? = some p[k]:=aE hk;generalize p[k]=y at hy;have a2:=Q81 hy;rw[a2] at E;simp only[less,List.countP_cons] at E
   by_cases W:y<x
   .have e1:decide (y<x)=true:=by simp[W]
    rw[e1] at E;simp(disch:=omega)only[W0,N13,Q,X3 V,J _ _ (Z9 hx),J _ _ (Z9 hy),e1];refine U (m2-1) _ _ _ O0 ⟨k+1,c2+1,O0,O2,O0,?_,rfl,O0⟩;simp only[less];simp at E;omega
   .have e1:decide (y<x)=false:=by simp[W]
    rw[e1] at E;simp(disch:=omega)only[W0,N13,Q,X3 V,J _ _ (Z9 hx),J _ _ (Z9 hy),e1];refine U (m2-1) _ _ _ O0 ⟨k+1,c2,O0,O2,O0,?_,rfl,O0⟩;simp only[less];simp at E;omega
  .have Q:¬ (k:Int)<(p.length:Int):=O0
   simp only[W0,Q];refine a1 (m-1) _ _ _ O0 ⟨i+1,c2,O0,O2,?_,rfl,a0⟩;rw[List.drop_eq_nil_of_le (show p.length<=k by omega)] at E;simp only[less,List.countP_nil] at E hc;omega
 .have O:¬ (i:Int)<(p.length:Int):=O0
  simp only[W0,O];rw[List.drop_eq_nil_of_le (show p.length<=i by omega)] at hc;simp only[inv] at hc;exact⟨by rw[<- hc];simp,Z⟩
section
variable (a0 a1 a2:Value) (H:Y0) (nx:Nat) (k:EP)
def F5:Prop:=
 M12 a0 H nx fun b c d=>
 Y2 gQ 8 [] c d fun c d e=>
 wUn .not c fun c=>
 K2 c (
 Rt bF d e k) (
 V4 (fun c=>
 J1 b (some 2) d fun f=>
 Y2 gQ 9 [f,a1] d e fun d e f=>
 wUn .not d fun d=>
 K3 false d (
 D10 .gtr a1 (.int .i64 5) fun d=>
 K3 false d (
 J1 b (some 2) e fun b=>
 Y2 gQ 11 [b,a1] e f fun b d e=>
 D10 .neq b i0 fun b=>
 c [b] d e) (
 c [bT] e f)) (
 c [bT] e f)) (fun c d e=>
 K2 c.a (
 Rt bT d e k) (
 J1 b (some 2) d fun c=>
 Y2 gQ 10 [c,a1] d e fun c d e=>
 G9 c 0 fun f=>
 G9 c 1 fun _=>
 wAl [.int .i64 0,.slice none 0 0,.slice none 0 0] d e fun c d e=>
 D5 c f 3 d fun d=>
 J1 b (some 2) d fun f=>
 Y2 gQ 17 [f,a1] d e fun d e f=>
 G9 d 0 fun g=>
 G9 d 1 fun h=>
 G9 d 2 fun d=>
 D10 .neq d i0 fun i=>
 K2 i (
 wFl c 0 e fun _ b=>
 D10 .eql b i1 fun b=>
 K3 true b (
 D10 .eql d (.int .i64 24) fun b=>
 K3 false b (
 wFl c 0 e fun _ b=>
 D10 .eql b (.int .i64 2) fun b=>
 K3 true b (
 D10 .eql d (.int .i64 25) fun b=>
 Rt b e f k) (
 Rt bF e f k)) (
 Rt bT e f k)) (
 wFl c 0 e fun _ b=>
 D10 .eql b (.int .i64 2) fun b=>
 K3 true b (
 D10 .eql d (.int .i64 25) fun b=>
 Rt b e f k) (
 Rt bF e f k))) (
 M2 (f+15) fun d=>
 wFl b 0 e fun i j=>
 wFl b 1 e fun b l=>
 Y2 gQ 21 [l,g] e d fun d m n=>
 U11 [.int .i64 0,.slice none 0 0] [(0,1),(1,1)] [(0,j),(1,d)] fun d=>
 Y2 gQ 10 [d,a1] m n fun d n o=>
 G9 d 0 fun p=>
 G9 d 1 fun d=>
 wNm f 12 .ptr fun q=>
 E6 n (f+12) (some (.cells [.int .i64 0,.slice none 0 0,.slice none 0 0] 0)) fun f=>D5 q p 3 f fun f=>
 wK ((tA (tA (tA (tB (cE b none e l)))))/\(tB (tA (tA ((cE i none m j)/\(tB (cE i none e j))))))) (
 D10 .eql d i0 fun b=>
 K3 true b (
 wFl q 0 f fun _ b=>
 D10 .eql b i0 fun b=>
 K3 true b (
 D10 .eql h i0 fun b=>
 wFl c 0 f fun _ c=>
 D10 .eql c i0 fun c=>
 D9 (.eqb false) [b,c] fun b=>
 K3 true b (
 Y2 gQ 22 [g,i0,a1] f o fun b c d=>
 K3 true b (
 Y2 gQ 20 [g] c d fun b c d=>
 D10 .eql h b fun b=>
 Rt b c d k) (
 Rt bF c d k)) (
 Rt bF f o k)) (
 Rt bF f o k)) (
 Rt bF f o k))))))
variable {a0 a1 a2 H nx k}
theorem spec5:F5 a0 a1 H nx k->Q2 gQ 5 [a0,a1] H nx k:=Q12 [(5,[27])] [] [.one (.tst (.one (.tst (.one .nil) (.one .nil))) (.one (.one (.one .nil)))),.one (.tst (.one (.tst (.tst (.one (.one .nil)) (.one (.one .nil))) (.one (.one (.one .nil))))) (.one (.one (.tst (.one (.one .nil)) (.one (.one .nil)))))),.one (.tst (.one (.tst (.one (.tst (.one (.tst (.one .nil) (.one .nil))) (.one (.one (.one .nil))))) (.one (.one (.one (.one (.one .nil))))))) (.one (.one (.one (.one (.one (.one (.one .nil))))))))]
end
section
variable {b es:List Nat} {f n:Nat}
theorem G112{f:Nat}{P:List Nat->Prop}:∀(k:Nat) (p:List Nat) (best:Option (List Nat)),p.Nodup->(∀ x ∈ p,x<f)->p.length+k=f->(∀ b,best=some b->IsF f b/\P b)->∀ b,nr f P k p best=some b->IsF f b/\P b
 | 0,p,best,h1,h2,h3,h4,b,h=>by
  rw[nr] at h
  split at h
  .rename_i hp
   cases h
   exact⟨⟨h1,h2,O0⟩,hp.2⟩
  .exact h4 b h
 | k+1,p,best,h1,h2,h3,h4,b,h=>by
  rw[nr] at h;have key:∀(l:List Nat) (s:Option (List Nat)),(∀ v ∈ l,v<f)->(∀ b,s=some b->IsF f b/\P b)->∀ b,l.foldl (fun s v=>if v ∈ p then s else nr f P k (p++[v]) s) s=some b->IsF f b/\P b:=by
   intro l
   induction l with
   | nil=>simp_all
   | cons v l ih=>
    intro s hl hs b hb;rw[dF] at hb;refine ih _ (fun v' J=>hl v' (by simp[J])) (fun b' E => ?_) b hb
    split at E
    .exact hs b' E
    .rename_i hv
     exact G112 k _ s (E50 h1 hv) (K47 h2 (hl v O2)) O5 hs b' E
  exact key _ best (fun v hv=>cW.1 hv) h4 b h
def LeO(M:Nat)(s:Option (List Nat)):Prop:=∃ b,s=some b/\J13 b<=M
theorem C71{M:Nat}{g:Option (List Nat)->Nat->Option (List Nat)}(hm:∀ s v,LeO M s->LeO M (g s v)):∀(l:List Nat) (s:Option (List Nat)),LeO M s->LeO M (l.foldl g s)
 | [],s,h=>h
 | v :: l,s,h=>by rw[dF];exact C71 hm l _ (hm s v h)
theorem G88{M v:Nat}{g:Option (List Nat)->Nat->Option (List Nat)}(hm:∀ s v,LeO M s->LeO M (g s v))(hv:∀ s,LeO M (g s v)):∀(l:List Nat) (s:Option (List Nat)),v ∈ l->LeO M (l.foldl g s)
 | [],s,h=>by simp at h
 | w :: l,s,h=>by
  rw[dF];rcases aU.1 h with rfl | h
  .exact C71 hm l _ (hv s)
  .exact G88 hm hv l _ h
theorem G93{f M:Nat}{P:List Nat->Prop}:∀(k:Nat) (p:List Nat) (best:Option (List Nat)),LeO M best->LeO M (nr f P k p best)
 | 0,p,best,h=>by
  rw[nr]
  split
  .rename_i hp
   obtain⟨b,rfl,hb⟩:=h;have:=hp.1 b rfl;exact⟨p,rfl,O0⟩
  .exact h
 | k+1,p,best,h=>by
  rw[nr];refine C71 (fun s v hs => ?_) _ _ h
  split
  .exact hs
  .exact G93 k _ s hs
theorem X101{f:Nat}{P:List Nat->Prop}:∀(k:Nat) (p r:List Nat) (best:Option (List Nat)),p.length+k=f->IsF f (p++r)->P (p++r)->LeO (J13 (p++r)) (nr f P k p best)
 | 0,p,r,best,h1,h2,h3=>by
  have hl:=h2.len;obtain rfl:r=[]:=dT.1 (by simp_all);rw[gV] at h3 ⊢;rw[nr]
  by_cases hL:Lss p best
  .rw[if_pos ⟨hL,h3⟩]
   exact⟨p,rfl,aD _⟩
  .rw[if_neg fun g=>hL g.1]
   refine aI fun hn=>hL fun b e=>Nat.lt_of_not_le fun hb=>hn ⟨b,e,hb⟩
 | k+1,p,r,best,h1,h2,h3=>by
  cases r with
  | nil=>have:=h2.len;simp_all
  | cons v r=>
   have e:p++v :: r=(p++[v])++r:=O2;rw[nr];have E:v<f:=h2.lt v O2;have J:v ∉ p:=fun hv=>(gT.1 h2.nd).2.2 v hv v O2 rfl
   refine G88 (v:=v) (fun s w hs => ?_) (fun s => ?_) _ _ (cW.2 E)
   .grind[G93]
   .rw[if_neg J]
    rw[e] at h2 h3 ⊢;exact X101 k _ r s O5 h2 h3
def ddp:List Nat->List Nat
 | []=>[]
 | v :: r=>v :: (ddp r).filter fun x=>decide (x≠v)
theorem K65{x:Nat}:∀ {l:List Nat},x ∈ ddp l<->x ∈ l
 | []=>Iff.rfl
 | v :: r=>by
  rw[ddp,aU,aU,dA,K65,decide_eq_true_eq]
  grind
theorem Q111:∀ l:List Nat,(ddp l).Nodup
 | []=>List.nodup_nil
 | v :: r=>hO.2 ⟨fun h=>by simp_all,(Q111 r).filter _⟩
theorem Y96{A:Nat->Nat->Prop}:∀ {l:List Nat},PEO A l->PEO A (ddp l)
 | [],_=>trivial
 | v :: r,h=>⟨fun a ha b hb=>h.1 a (K65.1 (dA.1 ha).1) b (K65.1 (dA.1 hb).1),PEO.filter _ (Y96 h.2)⟩
theorem N72{A:Nat->Nat->Prop}{l:List Nat}:∀ {p:List Nat},PEO A (p++l)->PEO A l
 | [],h=>h
 | _ :: _,h=>N72 h.2
theorem G113(hf:f<=n)(hc:∀ v,v<n->Q21 es v)(h:PE es):∃ q,IsF f q/\X40 (N22 es) q:=by
 obtain⟨l,h1,h2⟩:=h;have hP:=PEO.filter (fun x=>decide (x<f)) (Y96 h2.peo);have hm:∀ x,x ∈ (ddp l).filter (fun x=>decide (x<f))<->x<f:=fun x=>by
  grind[K65]
 have E:=(Q111 l).filter (fun x=>decide (x<f));generalize (ddp l).filter (fun x=>decide (x<f))=m at *
 have J:m.length=f:=by
  have a:=iB (l₂:=aY f) E fun x hx=>cW.2 ((hm x).1 hx)
  have b:=iB (l₂:=m) (l₁:=aY f) List.nodup_range fun x hx=>(hm x).2 (cW.1 hx)
  grind
 refine⟨m.reverse,⟨List.pairwise_reverse.2 (E.imp fun h=>eT h),fun x hx=>(hm x).1 (List.mem_reverse.1 hx),by simp[J]⟩,fun p1 v p2 e a ha b hb O h3 h4 => ?_⟩;have e2:m=p2.reverse++v :: p1.reverse:=by
  simp_all
 rw[e2] at hP;exact(N72 hP).1 a (by simpa using ha) b (by simpa using hb) O h3 h4
theorem K111(hf:f<=n)(hc:∀ v,v<n->Q21 es v)(h:PE es/\¬ U25 (N10 es) n f []):∃ b,X45 es n f=some b:=by
 obtain⟨q,h1,h2⟩:=G113 hf hc h.1;obtain⟨b,hb,_⟩:=X101 (P:=fun q=>U78 (G25 es q) n f) f [] q none O2 h1 ((Z80 hf h1).2 ⟨h,h2⟩);exact⟨b,hb⟩
theorem C95(h:X45 es n f=some b):IsF f b/\U78 (G25 es b) n f:=
 G112 f [] none List.nodup_nil (fun x hx=>by simp at hx) O2 (fun b e=>by cases e) b h
theorem J75:∀ f,J13 (aY f)=0
 | 0=>rfl
 | f+1=>by
  rw[List.range_succ,Y44,J75 f,List.countP_eq_zero.2]
  grind
theorem J114{p:List Nat}{v:Nat}(h:J13 (p++[v])=0):J13 p=0/\∀ x ∈ p,x<=v:=by
 grind[Y44,List.countP_eq_zero,decide]
theorem inv_zero:∀(f:Nat)(b:List Nat),IsF f b->J13 b=0->b=aY f
 | 0,b,h,_=>dT.1 h.len
 | f+1,b,h,hi=>by
  rcases List.eq_nil_or_concat b with rfl | ⟨p,v,rfl⟩
  .have:=h.len;simp at this
  rw[List.concat_eq_append] at h hi ⊢;obtain⟨h1,h2⟩:=J114 hi;have J:=gT.1 h.nd;have E:∀ x ∈ p,x<v:=fun x hx=>Nat.lt_of_le_of_ne (h2 x hx) (J.2.2 x hx v O2)
  have hv:v<f+1:=h.lt v O2;have hl:p.length=f:=by have:=h.len;simp at this;exact this
  have ih:=inv_zero f p ⟨J.1,fun x hx=>by have:=E x hx;omega,hl⟩ h1;subst ih;have:v=f:=by
   refine aI fun O => ?_
   have:=E v (cW.2 O0);omega
  rw[List.range_succ,this]
theorem C106(f:Nat):IsF f (aY f):=⟨List.nodup_range,fun x hx=>cW.1 hx,O2⟩
theorem K78(es:List Nat)(f:Nat):G25 es (aY f)=es:=by
 unfold G25
 conv=>rhs;rw[<- List.map_id es]
 refine List.map_congr_left fun e _=>bZ fun w => ?_
 grind[V59]
theorem R109(h:X45 es n f=some b):J13 b=0<->U78 es n f:=by
 constructor
 .intro hi
  obtain⟨h1,h2⟩:=C95 h;rw[inv_zero f b h1 hi,K78] at h2;exact h2
 .intro hA
  obtain⟨c,hc,hl⟩:=X101 (P:=fun q=>U78 (G25 es q) n f) f [] (aY f) none O2 (C106 f) (by rw[eR,K78];exact hA)
  grind[X45,J75]
end
end Go.Proofs.YtoiioigihocgbaaGreatDoor
